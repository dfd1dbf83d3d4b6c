/- A part of a proof. Its conditions: none. -/
import Derived.Test.YtgnmaekfiifepaaDoorAmMMiRight
import Derived.Test.YtgnmaekfiifepaaDoorAmC
set_option linter.all false
namespace Go.Proofs.YtgnmaekfiifepaaDoor
open Go.AM
set_option maxRecDepth 100000
theorem live_lt2 {n : Nat} {H : Heap} (hw : WF n H) {z : Nat} (h : H z ≠ .dead) : z < n := by
  apply Classical.byContradiction
  intro hc
  exact h (hw z (by omega))
def r0 (R R' : List Int) (s m : Nat) : List Bool := (List.range m).map fun u => !decide (Mini.at1 R s = Mini.at1 R' u)
def o0 (R R' : List Int) (k m : Nat) : List (List Bool) := (List.range k).map fun s => r0 R R' s m
theorem r0_len (R R' : List Int) (s m : Nat) : (r0 R R' s m).length = m := by simp [r0]
theorem o0_len (R R' : List Int) (k m : Nat) : (o0 R R' k m).length = k := by simp [o0]
theorem r0_snoc (R R' : List Int) (s m : Nat) : r0 R R' s (m + 1) = r0 R R' s m ++ [!decide (Mini.at1 R s = Mini.at1 R' m)] := by unfold r0; rw [List.range_succ, List.map_append]; rfl
theorem o0_snoc (R R' : List Int) (k m : Nat) : o0 R R' (k + 1) m = o0 R R' k m ++ [r0 R R' k m] := by unfold o0; rw [List.range_succ, List.map_append]; rfl
theorem o0_ap {N N' : List (List Int)} {R R' : List Int} {w : Nat} : Mini.Ap N R N' R' w (o0 R R' N.length N'.length) := by
  have hg : ∀ s, s < N.length → (o0 R R' N.length N'.length).getD s [] = r0 R R' s N'.length := fun s hs => by simp [o0, List.getD, hs]
  have hm : ∀ s u, s < N.length → u < N'.length → Mini.mv (o0 R R' N.length N'.length) s u = !decide (Mini.at1 R s = Mini.at1 R' u) := fun s u hs hu => by
    unfold Mini.mv; rw [hg s hs]; simp [r0, List.getD, hu]
  refine ⟨o0_len .., fun s hs => by rw [hg s hs, r0_len], fun s u hs hu h => ?_, fun s u hs hu h => ?_⟩
  · rw [hm s u hs hu] at h
    intro hsim
    have := Mini.sim_bis.rule _ _ hsim
    simp [this] at h
  · rw [hm s u hs hu] at h
    simpa using h
theorem bools_at (l : List Bool) : (l.flatMap fun z => [Value.bool z]) = l.map Value.bool := by
  induction l with
  | nil => rfl
  | cons z l ihl => rw [List.flatMap_cons, ihl]; rfl
set_option maxHeartbeats 8000000 in
theorem apart_gives {a b a' b' : Option Addr} {N N' : List (List Int)} {R R' : List Int} {w n0 : Nat} {H0 : Heap} (hw0 : WF n0 H0) (hN0 : R2 H0 a N) (hR0 : RA (Value.int .i64) H0 b R) (hN0' : R2 H0 a' N') (hR0' : RA (Value.int .i64) H0 b' R') (ok : Mini.Ok N R w) (ok' : Mini.Ok N' R' w) (hN : N.length ≤ 1000) (hN' : N'.length ≤ 1000) (hwl : w ≤ 1000) :
    Gives Tryd.prog 12 [.slice a N.length N.length, .slice b R.length R.length, .slice a' N'.length N'.length, .slice b' R'.length R'.length] n0 H0 fun v _ H' => ∃ (y : Nat) (ys : Nat → Nat) (O : List (List Bool)), v = .slice (some ⟨y, 0, none⟩) N.length N.length ∧ LL n0 H' y 32 4 (fun z => [Value.bool z]) O ys ∧ O.length = N.length ∧
      (∀ s, s < N.length → (O.getD s []).length = N'.length) ∧ ∀ s u, s < N.length → u < N'.length → (Mini.mv O s u = true ↔ ¬ Mini.Sim N R N' R' w s u) := by
  refine Gives.of orders ok12 (Nat.le_of_ble_eq_true rfl) ?_
  have hpos := ok.pos
  have hpos' := ok'.pos
  repeat (first | apply WK.seq | apply WK.block | apply WK.skipSeq | apply WK.skipBlock | apply WK.retSeq | apply WK.retBlock | apply WK.exitSeq | apply WK.exitHere | refine WK.exitOn rfl ?_ | ((first | (refine WK.rgn ?_ ?_; kernel_rfl) | refine AtCall.now ?_); simp (config := { maxSteps := 1000000 }) only [SS, forall_const, wx, tguard, acallee, top, tval, fput, tor, vsh, vbin, vun, tload, tload2, tload3, tstore, tstore2, tstore3, Go.AM.splice, one, tidx, tidx2, tidx3, tlen2, tlen3, tpick, tbs, tbs2, afill, tap, tap2, tap3, tap4, tsrc, tsrc2, Int.reduceEq, Int.reduceNeg, Nat.reduceGT, Nat.reduceLT, Nat.reduceLeDiff, Nat.reduceEqDiff, ↓reduceIte, reduceCtorEq, Int.reduceToNat, Int.reduceLE, Int.reduceLT, Nat.reduceAdd, Nat.reduceMul, ff_12]) | (refine WK.condT ?_ ?_; focus (simp only [ev_tmp, ev_const, fset_apply, Nat.reduceEqDiff, ↓reduceIte, decide_true, decide_false, ff_12]; done)) | (refine WK.condF ?_ ?_; focus (simp only [ev_tmp, ev_const, fset_apply, Nat.reduceEqDiff, ↓reduceIte, decide_true, decide_false, ff_12]; done)))
  have hk := Kp.new n0 H0 (.cells [] 32 true)
  have hb := hset_at H0 n0 (.cells [] 32 true)
  generalize hset H0 n0 (.cells [] 32 true) = H1 at *
  refine WK.loop (fun kk s => ∃ (i xo : Nat) (ys : Nat → Nat), i ≤ N.length ∧ Kp n0 H0 s.n s.H ∧ n0 ≤ xo ∧ LL n0 s.H xo 32 4 (fun z => [Value.bool z]) (o0 R R' i N'.length) ys ∧ s.f 0 = .slice a N.length N.length ∧ s.f 1 = .slice b R.length R.length ∧ s.f 2 = .slice a' N'.length N'.length ∧ s.f 3 = .slice b' R'.length R'.length ∧ s.f 9 = .slice (some ⟨xo, 0, none⟩) i i ∧ s.f 10 = .int .i64 (i : Int) ∧ kk = N.length - i) N.length ?_ ?_
  · exact ⟨0, n0, fun _ => 0, Nat.zero_le _, hk, Nat.le_refl _, ⟨hb, fun v hv => absurd hv (Nat.not_lt_zero _), fun u v hu => absurd hu (Nat.not_lt_zero _), fun v hv => absurd hv (Nat.not_lt_zero _), fun v hv => absurd hv (Nat.not_lt_zero _)⟩, rfl, rfl, rfl, rfl, rfl, rfl, rfl⟩
  clear hb hk H1
  rintro kk ⟨f, n1, H1⟩ ⟨i, xo, ys, hi, k1, hxo, hll, f0, f1, f2, f3, f9, f10, rfl⟩ ih
  simp only at k1 hll f0 f1 f2 f3 f9 f10 ih
  by_cases hil : i < N.length
  · have hil' : ((i : Int) < (N.length : Int)) = True := by simp only [eq_iff_iff, iff_true]; omega
    have h0i : (0 : Int) ≤ (i : Int) := Int.natCast_nonneg i
    have hiR : i < R.length := by have := ok.len; omega
    have hiR' : ((i : Int) < (R.length : Int)) = True := by simp only [eq_iff_iff, iff_true]; omega
    repeat (first | apply WK.seq | apply WK.block | apply WK.skipSeq | apply WK.skipBlock | apply WK.retSeq | apply WK.retBlock | apply WK.exitSeq | apply WK.exitHere | refine WK.exitOn rfl ?_ | ((first | (refine WK.rgn ?_ ?_; kernel_rfl) | refine AtCall.now ?_); simp (config := { maxSteps := 1000000 }) only [SS, forall_const, wx, tguard, acallee, top, tval, fput, tor, vsh, vbin, vun, tload, tload2, tload3, tstore, tstore2, tstore3, Go.AM.splice, one, tidx, tidx2, tidx3, tlen2, tlen3, tpick, tbs, tbs2, afill, tap, tap2, tap3, tap4, tsrc, tsrc2, Int.reduceEq, Int.reduceNeg, Nat.reduceGT, Nat.reduceLT, Nat.reduceLeDiff, Nat.reduceEqDiff, ↓reduceIte, reduceCtorEq, Int.reduceToNat, Int.reduceLE, Int.reduceLT, Nat.reduceAdd, Nat.reduceMul, f0, f10, hil', ff_12]) | (refine WK.condT ?_ ?_; focus (simp only [ev_tmp, ev_const, fset_apply, Nat.reduceEqDiff, ↓reduceIte, decide_true, decide_false, f0, f10, hil', ff_12]; done)) | (refine WK.condF ?_ ?_; focus (simp only [ev_tmp, ev_const, fset_apply, Nat.reduceEqDiff, ↓reduceIte, decide_true, decide_false, f0, f10, hil', ff_12]; done)))
    have kr := Kp.new n1 H1 (.cells [] 4 true)
    have hbr := hset_at H1 n1 (.cells [] 4 true)
    have hw1 := k1.wf hw0
    have hxo1 := hll.ltx hw1
    generalize hset H1 n1 (.cells [] 4 true) = H2 at *
    refine WK.loop (fun kk s => ∃ (u xr : Nat), u ≤ N'.length ∧ Kp n1 H1 s.n s.H ∧ n1 ≤ xr ∧ s.H xr = .cells ((r0 R R' i u).map .bool) 4 true ∧ s.f 0 = .slice a N.length N.length ∧ s.f 1 = .slice b R.length R.length ∧ s.f 2 = .slice a' N'.length N'.length ∧ s.f 3 = .slice b' R'.length R'.length ∧ s.f 9 = .slice (some ⟨xo, 0, none⟩) i i ∧ s.f 10 = .int .i64 (i : Int) ∧
      s.f 11 = .slice (some ⟨xr, 0, none⟩) u u ∧ s.f 12 = .int .i64 (u : Int) ∧ kk = N'.length - u) N'.length ?_ ?_
    · exact ⟨0, n1, Nat.zero_le _, kr, Nat.le_refl _, hbr, f0, f1, f2, f3, f9, f10, rfl, rfl, rfl⟩
    clear kr hbr H2
    rintro kk ⟨f, n2, H2⟩ ⟨u, xr, hu, k2, hxr, hrc, f0, f1, f2, f3, f9, f10, f11, f12, rfl⟩ ih2
    simp only at k2 hrc f0 f1 f2 f3 f9 f10 f11 f12 ih ih2
    have hw2 := k2.wf hw1
    have hxr2 := live_lt2 hw2 (z := xr) (by rw [hrc]; intro e; cases e)
    have hrl : ((r0 R R' i u).map Value.bool).length = u := by rw [List.length_map, r0_len]
    by_cases hul : u < N'.length
    · have hul' : ((u : Int) < (N'.length : Int)) = True := by simp only [eq_iff_iff, iff_true]; omega
      have h0u : (0 : Int) ≤ (u : Int) := Int.natCast_nonneg u
      have huR : u < R'.length := by have := ok'.len; omega
      have huR' : ((u : Int) < (R'.length : Int)) = True := by simp only [eq_iff_iff, iff_true]; omega
      have kE := k1.trans k2
      obtain ⟨y1, l1, d1, t1, o1, rfl, hy1, e1⟩ := (hR0.mono hw0 kE).at hiR
      obtain ⟨y2, l2, d2, t2, o2, rfl, hy2, e2⟩ := (hR0'.mono hw0 kE).at huR
      rw [← Mini.at1_at hiR] at e1
      rw [← Mini.at1_at huR] at e2
      have hct : [n2].contains xr = false := by simp; omega
      have hbg : u + 1 ≤ bigN := by unfold bigN; omega
      have hq : ∀ ob, hset H2 n2 ob xr = H2 xr := fun ob => hset_ne _ _ _ (by omega)
      repeat (first | apply WK.seq | apply WK.block | apply WK.skipSeq | apply WK.skipBlock | apply WK.retSeq | apply WK.retBlock | apply WK.exitSeq | apply WK.exitHere | refine WK.exitOn rfl ?_ | ((first | (refine WK.rgn ?_ ?_; kernel_rfl) | refine AtCall.now ?_); simp (config := { maxSteps := 1000000 }) only [SS, forall_const, wx, tguard, acallee, top, tval, fput, tor, vsh, vbin, vun, tload, tload2, tload3, tstore, tstore2, tstore3, Go.AM.splice, one, tidx, tidx2, tidx3, tlen2, tlen3, tpick, tbs, tbs2, afill, tap, tap2, tap3, tap4, tsrc, tsrc2, Int.reduceEq, Int.reduceNeg, Nat.reduceGT, Nat.reduceLT, Nat.reduceLeDiff, Nat.reduceEqDiff, ↓reduceIte, reduceCtorEq, Int.reduceToNat, Int.reduceLE, Int.reduceLT, Nat.reduceAdd, Nat.reduceMul, f1, f2, f3, f10, f11, f12, hul', hiR, hiR', h0i, h0u, huR, huR', hy1, e1, hy2, e2, hct, hbg, hq, hrc, hrl, hset_at, Int.toNat_natCast, Nat.zero_add, Nat.le_refl, ff_12]) | (refine WK.condT ?_ ?_; focus (simp only [ev_tmp, ev_const, fset_apply, Nat.reduceEqDiff, ↓reduceIte, decide_true, decide_false, f1, f2, f3, f10, f11, f12, hul', hiR, hiR', h0i, h0u, huR, huR', hy1, e1, hy2, e2, hct, hbg, hq, hrc, hrl, hset_at, Int.toNat_natCast, Nat.zero_add, Nat.le_refl, ff_12]; done)) | (refine WK.condF ?_ ?_; focus (simp only [ev_tmp, ev_const, fset_apply, Nat.reduceEqDiff, ↓reduceIte, decide_true, decide_false, f1, f2, f3, f10, f11, f12, hul', hiR, hiR', h0i, h0u, huR, huR', hy1, e1, hy2, e2, hct, hbg, hq, hrc, hrl, hset_at, Int.toNat_natCast, Nat.zero_add, Nat.le_refl, ff_12]; done)))
      refine ih2 (N'.length - (u + 1)) (by omega) _ ?_
      refine ⟨u + 1, n2 + 1, hul, ((k2.trans (Kp.new n2 H2 _)).set .dead hxr (by omega)).trans (Kp.new _ _ _), by have := k2.le; omega, ?_, f0, f1, f2, f3, f9, f10, rfl, ?_, rfl⟩
      · refine (hset_at _ _ _).trans ?_
        rw [r0_snoc, List.map_append, List.drop_zero, List.take_of_length_le (by rw [hrl]; exact Nat.le_refl _)]; rfl
      · simp only [packed, fset_apply, Nat.reduceEqDiff, ↓reduceIte, List.getD_cons_zero, List.getD_cons_succ, wrap_up hul (show N'.length ≤ maxL by unfold maxL; omega), ff_12]
    · have hul' : ((u : Int) < (N'.length : Int)) = False := by simp only [eq_iff_iff, iff_false]; omega
      have hue : u = N'.length := by omega
      subst hue
      have hxo2 : H2 xo = _ := (k2.keep xo hxo1).trans hll.hx
      have hcl : (llcells ys (o0 R R' i N'.length)).length = i := by rw [llcells_length, o0_len]
      have hct : [n2].contains xo = false := by simp; have := k2.le; omega
      have hbg : i + 1 ≤ bigN := by unfold bigN; omega
      have hle2 := k2.le
      have hq : ∀ ob, hset H2 n2 ob xo = H2 xo := fun ob => hset_ne _ _ _ (by omega)
      repeat (first | apply WK.seq | apply WK.block | apply WK.skipSeq | apply WK.skipBlock | apply WK.retSeq | apply WK.retBlock | apply WK.exitSeq | apply WK.exitHere | refine WK.exitOn rfl ?_ | ((first | (refine WK.rgn ?_ ?_; kernel_rfl) | refine AtCall.now ?_); simp (config := { maxSteps := 1000000 }) only [SS, forall_const, wx, tguard, acallee, top, tval, fput, tor, vsh, vbin, vun, tload, tload2, tload3, tstore, tstore2, tstore3, Go.AM.splice, one, tidx, tidx2, tidx3, tlen2, tlen3, tpick, tbs, tbs2, afill, tap, tap2, tap3, tap4, tsrc, tsrc2, Int.reduceEq, Int.reduceNeg, Nat.reduceGT, Nat.reduceLT, Nat.reduceLeDiff, Nat.reduceEqDiff, ↓reduceIte, reduceCtorEq, Int.reduceToNat, Int.reduceLE, Int.reduceLT, Nat.reduceAdd, Nat.reduceMul, f2, f9, f10, f11, f12, hul', hxo2, hcl, hct, hbg, hq, hset_at, Int.toNat_natCast, Nat.zero_add, Nat.le_refl, ff_12]) | (refine WK.condT ?_ ?_; focus (simp only [ev_tmp, ev_const, fset_apply, Nat.reduceEqDiff, ↓reduceIte, decide_true, decide_false, f2, f9, f10, f11, f12, hul', hxo2, hcl, hct, hbg, hq, hset_at, Int.toNat_natCast, Nat.zero_add, Nat.le_refl, ff_12]; done)) | (refine WK.condF ?_ ?_; focus (simp only [ev_tmp, ev_const, fset_apply, Nat.reduceEqDiff, ↓reduceIte, decide_true, decide_false, f2, f9, f10, f11, f12, hul', hxo2, hcl, hct, hbg, hq, hset_at, Int.toNat_natCast, Nat.zero_add, Nat.le_refl, ff_12]; done)))
      have hol : (o0 R R' i N'.length).length = i := o0_len ..
      have hne : ∀ v (hv : v < (o0 R R' i N'.length).length), (o0 R R' i N'.length)[v] ≠ [] := fun v hv e => by
        have h1 : ((o0 R R' i N'.length)[v]).length = N'.length := by simp [o0, r0]
        rw [e] at h1; simp at h1; omega
      have hyl : ∀ v (hv : v < (o0 R R' i N'.length).length), ys v < n1 ∧ ys v ≠ xo := fun v hv => ⟨hll.lty hw1 hv (hne v hv), hll.ne v hv (hne v hv)⟩
      have hfm : ∀ l : List Bool, (l.flatMap fun z => [Value.bool z]) = l.map Value.bool := fun l => by
        induction l with
        | nil => rfl
        | cons z l ihl => rw [List.flatMap_cons, ihl]; rfl
      have hle1 := k1.le
      refine ih (N.length - (i + 1)) (by omega) _ ?_
      refine ⟨i + 1, n2 + 1, upd ys i xr, hil, k1.trans (k2.trans (Kp.new n2 H2 (.cells [.slice (some ⟨xr, 0, none⟩) N'.length N'.length] 32 true))) |>.set .dead hxo (by omega) |>.trans (Kp.new _ _ _), by omega, ?_, f0, f1, f2, f3, rfl, ?_, rfl⟩
      · rw [o0_snoc]
        have e : upd ys i xr = upd ys (o0 R R' i N'.length).length xr := by rw [hol]
        rw [e]
        refine LL.push (fun _ => hll) (fun _ => ?_) (fun _ => by omega) (fun _ => by omega) ?_ (fun v hv _ => by have := hyl v hv; omega) (fun v hv _ => by have := hyl v hv; omega) (fun v hv _ => ?_)
        · rw [hfm]
          exact (hset_ne _ _ _ (by omega)).trans ((hset_ne _ _ _ (by omega)).trans ((hset_ne _ _ _ (by omega)).trans hrc))
        · refine (hset_at _ _ _).trans ?_
          rw [List.drop_zero, List.take_of_length_le (by rw [hcl]; exact Nat.le_refl _), r0_len, sl_pos (by omega)]; rfl
        · obtain ⟨v1, v2⟩ := hyl v hv
          exact (hset_ne _ _ _ (by omega)).trans ((hset_ne _ _ _ v2).trans ((hset_ne _ _ _ (by omega)).trans (k2.keep _ v1)))
      · simp only [packed, fset_apply, Nat.reduceEqDiff, ↓reduceIte, List.getD_cons_zero, List.getD_cons_succ, wrap_up hil (show N.length ≤ maxL by unfold maxL; omega), ff_12]
  · have hil' : ((i : Int) < (N.length : Int)) = False := by simp only [eq_iff_iff, iff_false]; omega
    repeat (first | apply WK.seq | apply WK.block | apply WK.skipSeq | apply WK.skipBlock | apply WK.retSeq | apply WK.retBlock | apply WK.exitSeq | apply WK.exitHere | refine WK.exitOn rfl ?_ | ((first | (refine WK.rgn ?_ ?_; kernel_rfl) | refine AtCall.now ?_); simp (config := { maxSteps := 1000000 }) only [SS, forall_const, wx, tguard, acallee, top, tval, fput, tor, vsh, vbin, vun, tload, tload2, tload3, tstore, tstore2, tstore3, Go.AM.splice, one, tidx, tidx2, tidx3, tlen2, tlen3, tpick, tbs, tbs2, afill, tap, tap2, tap3, tap4, tsrc, tsrc2, Int.reduceEq, Int.reduceNeg, Nat.reduceGT, Nat.reduceLT, Nat.reduceLeDiff, Nat.reduceEqDiff, ↓reduceIte, reduceCtorEq, Int.reduceToNat, Int.reduceLE, Int.reduceLT, Nat.reduceAdd, Nat.reduceMul, f0, f10, hil', ff_12]) | (refine WK.condT ?_ ?_; focus (simp only [ev_tmp, ev_const, fset_apply, Nat.reduceEqDiff, ↓reduceIte, decide_true, decide_false, f0, f10, hil', ff_12]; done)) | (refine WK.condF ?_ ?_; focus (simp only [ev_tmp, ev_const, fset_apply, Nat.reduceEqDiff, ↓reduceIte, decide_true, decide_false, f0, f10, hil', ff_12]; done)))
    have hie : i = N.length := by omega
    subst hie
    have hmulb : N.length * N'.length ≤ 1000000 := Nat.mul_le_mul hN hN'
    have hmul : IntKind.i64.wrap ((N.length : Int) * (N'.length : Int)) = ((N.length * N'.length : Nat) : Int) := by
      rw [wrap_in (by rw [← Int.natCast_mul]; omega) (by rw [← Int.natCast_mul]; omega), Int.natCast_mul]
    refine WK.loop (fun kk s => ∃ (r : Nat) (O : List (List Bool)) (ys : Nat → Nat), r ≤ N.length * N'.length ∧ Kp n0 H0 s.n s.H ∧ LL n0 s.H xo 32 4 (fun z => [Value.bool z]) O ys ∧ Mini.Ap N R N' R' w O ∧ r ≤ Mini.tot O ∧ s.f 0 = .slice a N.length N.length ∧ s.f 2 = .slice a' N'.length N'.length ∧ s.f 9 = .slice (some ⟨xo, 0, none⟩) N.length N.length ∧ s.f 13 = .int .i64 (r : Int) ∧ kk = N.length * N'.length - r) (N.length * N'.length) ?_ ?_
    · exact ⟨0, _, ys, Nat.zero_le _, k1, hll, o0_ap, Nat.zero_le _, f0, f2, f9, rfl, rfl⟩
    clear hll k1 f0 f1 f2 f3 f9 f10 ih
    rintro kk ⟨f, n1, H1⟩ ⟨r, O0, ys, hr, k1, hll, ap0, htot, f0, f2, f9, f13, rfl⟩ ih
    simp only at k1 hll f0 f2 f9 f13 ih
    have fin : ∀ (O : List (List Bool)) (ys : Nat → Nat) (n2 : Nat) (H2 : Heap), LL n0 H2 xo 32 4 (fun z => [Value.bool z]) O ys → Mini.Ap N R N' R' w O → Mini.CA N N' w O → ∃ (y : Nat) (ys : Nat → Nat) (O : List (List Bool)), Value.slice (some ⟨xo, 0, none⟩) N.length N.length = .slice (some ⟨y, 0, none⟩) N.length N.length ∧ LL n0 H2 y 32 4 (fun z => [Value.bool z]) O ys ∧ O.length = N.length ∧
      (∀ s, s < N.length → (O.getD s []).length = N'.length) ∧ ∀ s u, s < N.length → u < N'.length → (Mini.mv O s u = true ↔ ¬ Mini.Sim N R N' R' w s u) := fun O ys n2 H2 h1 h2 h3 => ⟨xo, ys, O, rfl, h1, h2.len, h2.row, fun s u hs hu => h2.final ok ok' h3 hs hu⟩
    by_cases hrl : r < N.length * N'.length
    case neg =>
      have hrl' : ((r : Int) < ((N.length * N'.length : Nat) : Int)) = False := by simp only [eq_iff_iff, iff_false]; omega
      repeat (first | apply WK.seq | apply WK.block | apply WK.skipSeq | apply WK.skipBlock | apply WK.retSeq | apply WK.retBlock | apply WK.exitSeq | apply WK.exitHere | refine WK.exitOn rfl ?_ | ((first | (refine WK.rgn ?_ ?_; kernel_rfl) | refine AtCall.now ?_); simp (config := { maxSteps := 1000000 }) only [SS, forall_const, wx, tguard, acallee, top, tval, fput, tor, vsh, vbin, vun, tload, tload2, tload3, tstore, tstore2, tstore3, Go.AM.splice, one, tidx, tidx2, tidx3, tlen2, tlen3, tpick, tbs, tbs2, afill, tap, tap2, tap3, tap4, tsrc, tsrc2, Int.reduceEq, Int.reduceNeg, Nat.reduceGT, Nat.reduceLT, Nat.reduceLeDiff, Nat.reduceEqDiff, ↓reduceIte, reduceCtorEq, Int.reduceToNat, Int.reduceLE, Int.reduceLT, Nat.reduceAdd, Nat.reduceMul, f0, f2, f9, f13, hmul, hrl', ff_12]) | (refine WK.condT ?_ ?_; focus (simp only [ev_tmp, ev_const, fset_apply, Nat.reduceEqDiff, ↓reduceIte, decide_true, decide_false, f0, f2, f9, f13, hmul, hrl', ff_12]; done)) | (refine WK.condF ?_ ?_; focus (simp only [ev_tmp, ev_const, fset_apply, Nat.reduceEqDiff, ↓reduceIte, decide_true, decide_false, f0, f2, f9, f13, hmul, hrl', ff_12]; done)))
      (first | refine WK.retNil ⟨Or.inr rfl, _, rfl, ?_, ?_⟩ | refine WK.skipNil ⟨Or.inl rfl, _, rfl, ?_, ?_⟩)
      · exact fun z hz => k1.keep z hz
      · simp only [packed, fset_apply, Nat.reduceEqDiff, ↓reduceIte, List.getD_cons_zero, List.getD_cons_succ, ff_12]
        exact fin O0 ys n1 H1 hll ap0 (ap0.full (by omega))
    have hrl' : ((r : Int) < ((N.length * N'.length : Nat) : Int)) = True := by simp only [eq_iff_iff, iff_true]; omega
    repeat (first | apply WK.seq | apply WK.block | apply WK.skipSeq | apply WK.skipBlock | apply WK.retSeq | apply WK.retBlock | apply WK.exitSeq | apply WK.exitHere | refine WK.exitOn rfl ?_ | ((first | (refine WK.rgn ?_ ?_; kernel_rfl) | refine AtCall.now ?_); simp (config := { maxSteps := 1000000 }) only [SS, forall_const, wx, tguard, acallee, top, tval, fput, tor, vsh, vbin, vun, tload, tload2, tload3, tstore, tstore2, tstore3, Go.AM.splice, one, tidx, tidx2, tidx3, tlen2, tlen3, tpick, tbs, tbs2, afill, tap, tap2, tap3, tap4, tsrc, tsrc2, Int.reduceEq, Int.reduceNeg, Nat.reduceGT, Nat.reduceLT, Nat.reduceLeDiff, Nat.reduceEqDiff, ↓reduceIte, reduceCtorEq, Int.reduceToNat, Int.reduceLE, Int.reduceLT, Nat.reduceAdd, Nat.reduceMul, f0, f2, f9, f13, hmul, hrl', ff_12]) | (refine WK.condT ?_ ?_; focus (simp only [ev_tmp, ev_const, fset_apply, Nat.reduceEqDiff, ↓reduceIte, decide_true, decide_false, f0, f2, f9, f13, hmul, hrl', ff_12]; done)) | (refine WK.condF ?_ ?_; focus (simp only [ev_tmp, ev_const, fset_apply, Nat.reduceEqDiff, ↓reduceIte, decide_true, decide_false, f0, f2, f9, f13, hmul, hrl', ff_12]; done)))
    refine WK.loop (fun kk s => ∃ (i : Nat) (O : List (List Bool)) (ys : Nat → Nat) (more : Bool), i ≤ N.length ∧ Kp n0 H0 s.n s.H ∧ LL n0 s.H xo 32 4 (fun z => [Value.bool z]) O ys ∧ Mini.Ap N R N' R' w O ∧ Mini.Pp N N' w O0 O more (fun s _ _ => s < i) ∧ s.f 0 = .slice a N.length N.length ∧ s.f 2 = .slice a' N'.length N'.length ∧ s.f 9 = .slice (some ⟨xo, 0, none⟩) N.length N.length ∧ s.f 13 = .int .i64 (r : Int) ∧ s.f 14 = .bool more ∧ s.f 15 = .int .i64 (i : Int) ∧ kk = N.length - i) N.length ?_ ?_
    · exact ⟨0, O0, ys, false, Nat.zero_le _, k1, hll, ap0, ⟨fun _ => ⟨rfl, fun s u t h => absurd h (Nat.not_lt_zero _)⟩, fun h => (by cases h)⟩, f0, f2, f9, f13, rfl, rfl, rfl⟩
    clear hll k1 f0 f2 f9 f13
    rintro kk ⟨f, n1, H1⟩ ⟨i, O1, ys, more, hi, k1, hll, ap1, pp1, f0, f2, f9, f13, f14, f15, rfl⟩ ih2
    simp only at k1 hll f0 f2 f9 f13 f14 f15 ih ih2
    by_cases hil : i < N.length
    case neg =>
      have hil' : ((i : Int) < (N.length : Int)) = False := by simp only [eq_iff_iff, iff_false]; omega
      have ppE := pp1.imp (Q := fun _ _ _ => True) fun s u t _ hs _ _ _ => .inl (by omega)
      cases more with
      | false =>
        repeat (first | apply WK.seq | apply WK.block | apply WK.skipSeq | apply WK.skipBlock | apply WK.retSeq | apply WK.retBlock | apply WK.exitSeq | apply WK.exitHere | refine WK.exitOn rfl ?_ | ((first | (refine WK.rgn ?_ ?_; kernel_rfl) | refine AtCall.now ?_); simp (config := { maxSteps := 1000000 }) only [SS, forall_const, wx, tguard, acallee, top, tval, fput, tor, vsh, vbin, vun, tload, tload2, tload3, tstore, tstore2, tstore3, Go.AM.splice, one, tidx, tidx2, tidx3, tlen2, tlen3, tpick, tbs, tbs2, afill, tap, tap2, tap3, tap4, tsrc, tsrc2, Int.reduceEq, Int.reduceNeg, Nat.reduceGT, Nat.reduceLT, Nat.reduceLeDiff, Nat.reduceEqDiff, ↓reduceIte, reduceCtorEq, Int.reduceToNat, Int.reduceLE, Int.reduceLT, Nat.reduceAdd, Nat.reduceMul, f0, f9, f14, f15, hil', ff_12]) | (refine WK.condT ?_ ?_; focus (simp only [ev_tmp, ev_const, fset_apply, Nat.reduceEqDiff, ↓reduceIte, decide_true, decide_false, f0, f9, f14, f15, hil', ff_12]; done)) | (refine WK.condF ?_ ?_; focus (simp only [ev_tmp, ev_const, fset_apply, Nat.reduceEqDiff, ↓reduceIte, decide_true, decide_false, f0, f9, f14, f15, hil', ff_12]; done)))
        (first | refine WK.retNil ⟨Or.inr rfl, _, rfl, ?_, ?_⟩ | refine WK.skipNil ⟨Or.inl rfl, _, rfl, ?_, ?_⟩)
        · exact fun z hz => k1.keep z hz
        · simp only [packed, fset_apply, Nat.reduceEqDiff, ↓reduceIte, List.getD_cons_zero, List.getD_cons_succ, ff_12]
          exact fin O1 ys n1 H1 hll ap1 fun s u hs hu hv t ht => (ppE.no rfl).2 s u t trivial hs hu ht hv
      | true =>
        have := ppE.yes rfl
        repeat (first | apply WK.seq | apply WK.block | apply WK.skipSeq | apply WK.skipBlock | apply WK.retSeq | apply WK.retBlock | apply WK.exitSeq | apply WK.exitHere | refine WK.exitOn rfl ?_ | ((first | (refine WK.rgn ?_ ?_; kernel_rfl) | refine AtCall.now ?_); simp (config := { maxSteps := 1000000 }) only [SS, forall_const, wx, tguard, acallee, top, tval, fput, tor, vsh, vbin, vun, tload, tload2, tload3, tstore, tstore2, tstore3, Go.AM.splice, one, tidx, tidx2, tidx3, tlen2, tlen3, tpick, tbs, tbs2, afill, tap, tap2, tap3, tap4, tsrc, tsrc2, Int.reduceEq, Int.reduceNeg, Nat.reduceGT, Nat.reduceLT, Nat.reduceLeDiff, Nat.reduceEqDiff, ↓reduceIte, reduceCtorEq, Int.reduceToNat, Int.reduceLE, Int.reduceLT, Nat.reduceAdd, Nat.reduceMul, f0, f9, f13, f14, f15, hil', ff_12]) | (refine WK.condT ?_ ?_; focus (simp only [ev_tmp, ev_const, fset_apply, Nat.reduceEqDiff, ↓reduceIte, decide_true, decide_false, f0, f9, f13, f14, f15, hil', ff_12]; done)) | (refine WK.condF ?_ ?_; focus (simp only [ev_tmp, ev_const, fset_apply, Nat.reduceEqDiff, ↓reduceIte, decide_true, decide_false, f0, f9, f13, f14, f15, hil', ff_12]; done)))
        refine ih (N.length * N'.length - (r + 1)) (by omega) _ ?_
        refine ⟨r + 1, O1, ys, hrl, k1, hll, ap1, by omega, f0, f2, f9, ?_, rfl⟩
        simp only [packed, fset_apply, Nat.reduceEqDiff, ↓reduceIte, List.getD_cons_zero, List.getD_cons_succ, wrap_up hrl (show N.length * N'.length ≤ maxL by unfold maxL; omega), ff_12]
    have hil' : ((i : Int) < (N.length : Int)) = True := by simp only [eq_iff_iff, iff_true]; omega
    repeat (first | apply WK.seq | apply WK.block | apply WK.skipSeq | apply WK.skipBlock | apply WK.retSeq | apply WK.retBlock | apply WK.exitSeq | apply WK.exitHere | refine WK.exitOn rfl ?_ | ((first | (refine WK.rgn ?_ ?_; kernel_rfl) | refine AtCall.now ?_); simp (config := { maxSteps := 1000000 }) only [SS, forall_const, wx, tguard, acallee, top, tval, fput, tor, vsh, vbin, vun, tload, tload2, tload3, tstore, tstore2, tstore3, Go.AM.splice, one, tidx, tidx2, tidx3, tlen2, tlen3, tpick, tbs, tbs2, afill, tap, tap2, tap3, tap4, tsrc, tsrc2, Int.reduceEq, Int.reduceNeg, Nat.reduceGT, Nat.reduceLT, Nat.reduceLeDiff, Nat.reduceEqDiff, ↓reduceIte, reduceCtorEq, Int.reduceToNat, Int.reduceLE, Int.reduceLT, Nat.reduceAdd, Nat.reduceMul, f0, f15, hil', ff_12]) | (refine WK.condT ?_ ?_; focus (simp only [ev_tmp, ev_const, fset_apply, Nat.reduceEqDiff, ↓reduceIte, decide_true, decide_false, f0, f15, hil', ff_12]; done)) | (refine WK.condF ?_ ?_; focus (simp only [ev_tmp, ev_const, fset_apply, Nat.reduceEqDiff, ↓reduceIte, decide_true, decide_false, f0, f15, hil', ff_12]; done)))
    have h0i : (0 : Int) ≤ (i : Int) := Int.natCast_nonneg i
    refine WK.loop (fun kk s => ∃ (u : Nat) (O : List (List Bool)) (ys : Nat → Nat) (more : Bool), u ≤ N'.length ∧ Kp n0 H0 s.n s.H ∧ LL n0 s.H xo 32 4 (fun z => [Value.bool z]) O ys ∧ Mini.Ap N R N' R' w O ∧ Mini.Pp N N' w O0 O more (fun s u' _ => s < i ∨ s = i ∧ u' < u) ∧ s.f 0 = .slice a N.length N.length ∧ s.f 2 = .slice a' N'.length N'.length ∧ s.f 9 = .slice (some ⟨xo, 0, none⟩) N.length N.length ∧ s.f 13 = .int .i64 (r : Int) ∧ s.f 14 = .bool more ∧ s.f 15 = .int .i64 (i : Int) ∧ s.f 16 = .int .i64 (u : Int) ∧ kk = N'.length - u) N'.length ?_ ?_
    · exact ⟨0, O1, ys, more, Nat.zero_le _, k1, hll, ap1, pp1.imp fun s u t h _ _ _ _ => .inl (by rcases h with h | h; exact h; exact absurd h.2 (Nat.not_lt_zero _)), f0, f2, f9, f13, f14, f15, rfl, rfl⟩
    clear hll k1 f0 f2 f9 f13 f14 f15 ap1 pp1
    rintro kk ⟨f, n1, H1⟩ ⟨u, O2, ys, more, hu, k1, hll, ap2, pp2, f0, f2, f9, f13, f14, f15, f16, rfl⟩ ih3
    simp only at k1 hll f0 f2 f9 f13 f14 f15 f16 ih ih2 ih3
    by_cases hul : u < N'.length
    case neg =>
      have hul' : ((u : Int) < (N'.length : Int)) = False := by simp only [eq_iff_iff, iff_false]; omega
      repeat (first | apply WK.seq | apply WK.block | apply WK.skipSeq | apply WK.skipBlock | apply WK.retSeq | apply WK.retBlock | apply WK.exitSeq | apply WK.exitHere | refine WK.exitOn rfl ?_ | ((first | (refine WK.rgn ?_ ?_; kernel_rfl) | refine AtCall.now ?_); simp (config := { maxSteps := 1000000 }) only [SS, forall_const, wx, tguard, acallee, top, tval, fput, tor, vsh, vbin, vun, tload, tload2, tload3, tstore, tstore2, tstore3, Go.AM.splice, one, tidx, tidx2, tidx3, tlen2, tlen3, tpick, tbs, tbs2, afill, tap, tap2, tap3, tap4, tsrc, tsrc2, Int.reduceEq, Int.reduceNeg, Nat.reduceGT, Nat.reduceLT, Nat.reduceLeDiff, Nat.reduceEqDiff, ↓reduceIte, reduceCtorEq, Int.reduceToNat, Int.reduceLE, Int.reduceLT, Nat.reduceAdd, Nat.reduceMul, f2, f15, f16, hul', ff_12]) | (refine WK.condT ?_ ?_; focus (simp only [ev_tmp, ev_const, fset_apply, Nat.reduceEqDiff, ↓reduceIte, decide_true, decide_false, f2, f15, f16, hul', ff_12]; done)) | (refine WK.condF ?_ ?_; focus (simp only [ev_tmp, ev_const, fset_apply, Nat.reduceEqDiff, ↓reduceIte, decide_true, decide_false, f2, f15, f16, hul', ff_12]; done)))
      refine ih2 (N.length - (i + 1)) (by omega) _ ?_
      refine ⟨i + 1, O2, ys, more, hil, k1, hll, ap2, pp2.imp fun s u' t h _ hu' _ _ => .inl (by omega), f0, f2, f9, f13, f14, ?_, rfl⟩
      simp only [packed, fset_apply, Nat.reduceEqDiff, ↓reduceIte, List.getD_cons_zero, List.getD_cons_succ, wrap_up hil (show N.length ≤ maxL by unfold maxL; omega), ff_12]
    have hul' : ((u : Int) < (N'.length : Int)) = True := by simp only [eq_iff_iff, iff_true]; omega
    have h0u : (0 : Int) ≤ (u : Int) := Int.natCast_nonneg u
    repeat (first | apply WK.seq | apply WK.block | apply WK.skipSeq | apply WK.skipBlock | apply WK.retSeq | apply WK.retBlock | apply WK.exitSeq | apply WK.exitHere | refine WK.exitOn rfl ?_ | ((first | (refine WK.rgn ?_ ?_; kernel_rfl) | refine AtCall.now ?_); simp (config := { maxSteps := 1000000 }) only [SS, forall_const, wx, tguard, acallee, top, tval, fput, tor, vsh, vbin, vun, tload, tload2, tload3, tstore, tstore2, tstore3, Go.AM.splice, one, tidx, tidx2, tidx3, tlen2, tlen3, tpick, tbs, tbs2, afill, tap, tap2, tap3, tap4, tsrc, tsrc2, Int.reduceEq, Int.reduceNeg, Nat.reduceGT, Nat.reduceLT, Nat.reduceLeDiff, Nat.reduceEqDiff, ↓reduceIte, reduceCtorEq, Int.reduceToNat, Int.reduceLE, Int.reduceLT, Nat.reduceAdd, Nat.reduceMul, f2, f16, hul', ff_12]) | (refine WK.condT ?_ ?_; focus (simp only [ev_tmp, ev_const, fset_apply, Nat.reduceEqDiff, ↓reduceIte, decide_true, decide_false, f2, f16, hul', ff_12]; done)) | (refine WK.condF ?_ ?_; focus (simp only [ev_tmp, ev_const, fset_apply, Nat.reduceEqDiff, ↓reduceIte, decide_true, decide_false, f2, f16, hul', ff_12]; done)))
    refine WK.loop (fun kk s => ∃ (j : Nat) (O : List (List Bool)) (ys : Nat → Nat) (more : Bool), j ≤ w ∧ Kp n0 H0 s.n s.H ∧ LL n0 s.H xo 32 4 (fun z => [Value.bool z]) O ys ∧ Mini.Ap N R N' R' w O ∧ Mini.Pp N N' w O0 O more (fun s u' t => s < i ∨ s = i ∧ (u' < u ∨ u' = u ∧ t < j)) ∧ s.f 0 = .slice a N.length N.length ∧ s.f 2 = .slice a' N'.length N'.length ∧ s.f 9 = .slice (some ⟨xo, 0, none⟩) N.length N.length ∧ s.f 13 = .int .i64 (r : Int) ∧ s.f 14 = .bool more ∧ s.f 15 = .int .i64 (i : Int) ∧ s.f 16 = .int .i64 (u : Int) ∧ s.f 17 = .int .i64 (j : Int) ∧ kk = w - j) w ?_ ?_
    · exact ⟨0, O2, ys, more, Nat.zero_le _, k1, hll, ap2, pp2.imp fun s u' t h _ _ _ _ => .inl (by omega), f0, f2, f9, f13, f14, f15, f16, rfl, rfl⟩
    clear hll k1 f0 f2 f9 f13 f14 f15 f16 ap2 pp2
    rintro kk ⟨f, n1, H1⟩ ⟨j, O, ys, more, hj, k1, hll, ap, pp, f0, f2, f9, f13, f14, f15, f16, f17, rfl⟩ ih4
    simp only at k1 hll f0 f2 f9 f13 f14 f15 f16 f17 ih ih2 ih3 ih4
    have hw1 := k1.wf hw0
    obtain ⟨x, k, cs, ty, own, p, rfl, hx, ci, hp⟩ := (hN0.mono hw0 k1).at hil
    obtain ⟨x', k', cs', ty', own', p', rfl, hx', cu, hp'⟩ := (hN0'.mono hw0 k1).at hul
    have hXw : N[i].length = w := by have := ok.row i hil; rwa [Mini.getD_at [] hil] at this
    have hXw' : N'[u].length = w := by have := ok'.row u hul; rwa [Mini.getD_at [] hul] at this
    have hiO : i < O.length := by rw [ap.len]; exact hil
    have hrow : (O.getD i []).length = N'.length := ap.row i hil
    have hgO : O.getD i [] = O[i] := Mini.getD_at [] hiO
    rw [hgO] at hrow
    have hrne : O[i] ≠ [] := fun e => by rw [e] at hrow; simp at hrow; omega
    have hxo1 := hll.hx
    have hOi := hll.at hiO
    rw [sl_pos (by rw [hrow]; omega), hrow] at hOi
    have hyi := hll.hy i hiO hrne
    rw [bools_at] at hyi
    have hmv : Mini.mv O i u = O[i][u] := by unfold Mini.mv; rw [hgO]; exact Mini.getD_at _ (by omega)
    have hcell : (O[i].map Value.bool)[u]? = some (.bool (Mini.mv O i u)) := by rw [List.getElem?_map, List.getElem?_eq_getElem (by omega), hmv]; rfl
    have hwm : w ≤ maxL := by unfold maxL; omega
    have hum : N'.length ≤ maxL := by unfold maxL; omega
    rw [hXw] at ci
    rw [hXw'] at cu
    by_cases hjl : j < w
    case neg =>
      have hjl' : ((j : Int) < (w : Int)) = False := by simp only [eq_iff_iff, iff_false]; omega
      repeat (first | apply WK.seq | apply WK.block | apply WK.skipSeq | apply WK.skipBlock | apply WK.retSeq | apply WK.retBlock | apply WK.exitSeq | apply WK.exitHere | refine WK.exitOn rfl ?_ | ((first | (refine WK.rgn ?_ ?_; kernel_rfl) | refine AtCall.now ?_); simp (config := { maxSteps := 1000000 }) only [SS, forall_const, wx, tguard, acallee, top, tval, fput, tor, vsh, vbin, vun, tload, tload2, tload3, tstore, tstore2, tstore3, Go.AM.splice, one, tidx, tidx2, tidx3, tlen2, tlen3, tpick, tbs, tbs2, afill, tap, tap2, tap3, tap4, tsrc, tsrc2, Int.reduceEq, Int.reduceNeg, Nat.reduceGT, Nat.reduceLT, Nat.reduceLeDiff, Nat.reduceEqDiff, ↓reduceIte, reduceCtorEq, Int.reduceToNat, Int.reduceLE, Int.reduceLT, Nat.reduceAdd, Nat.reduceMul, f0, f2, f9, f15, f16, f17, hil', hil, h0i, hx, ci, hjl', Int.toNat_natCast, Nat.zero_add, ff_12]) | (refine WK.condT ?_ ?_; focus (simp only [ev_tmp, ev_const, fset_apply, Nat.reduceEqDiff, ↓reduceIte, decide_true, decide_false, f0, f2, f9, f15, f16, f17, hil', hil, h0i, hx, ci, hjl', Int.toNat_natCast, Nat.zero_add, ff_12]; done)) | (refine WK.condF ?_ ?_; focus (simp only [ev_tmp, ev_const, fset_apply, Nat.reduceEqDiff, ↓reduceIte, decide_true, decide_false, f0, f2, f9, f15, f16, f17, hil', hil, h0i, hx, ci, hjl', Int.toNat_natCast, Nat.zero_add, ff_12]; done)))
      refine ih3 (N'.length - (u + 1)) (by omega) _ ?_
      refine ⟨u + 1, O, ys, more, hul, k1, hll, ap, pp.imp fun s u' t h _ _ ht _ => .inl (by omega), f0, f2, f9, f13, f14, f15, ?_, rfl⟩
      simp only [packed, fset_apply, Nat.reduceEqDiff, ↓reduceIte, List.getD_cons_zero, List.getD_cons_succ, wrap_up hul hum, ff_12]
    have hjl' : ((j : Int) < (w : Int)) = True := by simp only [eq_iff_iff, iff_true]; omega
    have h0j : (0 : Int) ≤ (j : Int) := Int.natCast_nonneg j
    cases hv : Mini.mv O i u with
    | true =>
      rw [hv] at hcell
      repeat (first | apply WK.seq | apply WK.block | apply WK.skipSeq | apply WK.skipBlock | apply WK.retSeq | apply WK.retBlock | apply WK.exitSeq | apply WK.exitHere | refine WK.exitOn rfl ?_ | ((first | (refine WK.rgn ?_ ?_; kernel_rfl) | refine AtCall.now ?_); simp (config := { maxSteps := 1000000 }) only [SS, forall_const, wx, tguard, acallee, top, tval, fput, tor, vsh, vbin, vun, tload, tload2, tload3, tstore, tstore2, tstore3, Go.AM.splice, one, tidx, tidx2, tidx3, tlen2, tlen3, tpick, tbs, tbs2, afill, tap, tap2, tap3, tap4, tsrc, tsrc2, Int.reduceEq, Int.reduceNeg, Nat.reduceGT, Nat.reduceLT, Nat.reduceLeDiff, Nat.reduceEqDiff, ↓reduceIte, reduceCtorEq, Int.reduceToNat, Int.reduceLE, Int.reduceLT, Nat.reduceAdd, Nat.reduceMul, f0, f2, f9, f15, f16, f17, hil', hil, hul', hul, h0i, h0u, hx, ci, hjl', hxo1, hOi, hyi, hcell, Int.toNat_natCast, Nat.zero_add, ff_12]) | (refine WK.condT ?_ ?_; focus (simp only [ev_tmp, ev_const, fset_apply, Nat.reduceEqDiff, ↓reduceIte, decide_true, decide_false, f0, f2, f9, f15, f16, f17, hil', hil, hul', hul, h0i, h0u, hx, ci, hjl', hxo1, hOi, hyi, hcell, Int.toNat_natCast, Nat.zero_add, ff_12]; done)) | (refine WK.condF ?_ ?_; focus (simp only [ev_tmp, ev_const, fset_apply, Nat.reduceEqDiff, ↓reduceIte, decide_true, decide_false, f0, f2, f9, f15, f16, f17, hil', hil, hul', hul, h0i, h0u, hx, ci, hjl', hxo1, hOi, hyi, hcell, Int.toNat_natCast, Nat.zero_add, ff_12]; done)))
      refine ih3 (N'.length - (u + 1)) (by omega) _ ?_
      refine ⟨u + 1, O, ys, more, hul, k1, hll, ap, pp.imp fun s u' t h hs hu' ht hvv => ?_, f0, f2, f9, f13, f14, f15, ?_, rfl⟩
      · by_cases e : s = i ∧ u' = u
        · rw [e.1, e.2, hv] at hvv; cases hvv
        · exact .inl (by omega)
      · simp only [packed, fset_apply, Nat.reduceEqDiff, ↓reduceIte, List.getD_cons_zero, List.getD_cons_succ, wrap_up hul hum, ff_12]
    | false =>
      rw [hv] at hcell
      have hj1 : j < N[i].length := by omega
      have hj1' : j < N'[u].length := by omega
      have a1 := Mini.at2_at hil hj1
      have a2 := Mini.at2_at hul hj1'
      have b1 := ok.hi i hil j hjl
      have b2 := ok'.hi u hul j hjl
      rw [a1] at b1
      rw [a2] at b2
      obtain ⟨z, m, es, tz, oz, rfl, hz, ej⟩ := hp.at hj1
      obtain ⟨z', m', es', tz', oz', rfl, hz', ej'⟩ := hp'.at hj1'
      generalize N[i][j] = Y1 at *
      generalize N'[u][j] = Y2 at *
      have nextS : ∀ (O2 : List (List Bool)) (ys2 : Nat → Nat) (m2 : Bool) (H2 : Heap), Kp n0 H0 n1 H2 → LL n0 H2 xo 32 4 (fun z => [Value.bool z]) O2 ys2 → Mini.Ap N R N' R' w O2 → Mini.Pp N N' w O0 O2 m2 (fun s u' t => s < i ∨ s = i ∧ (u' < u ∨ u' = u ∧ t < j + 1)) → ∀ f2 : Fr, f2 0 = .slice (some ⟨x, k, none⟩) N.length N.length → f2 2 = .slice (some ⟨x', k', none⟩) N'.length N'.length → f2 9 = .slice (some ⟨xo, 0, none⟩) N.length N.length → f2 13 = .int .i64 (r : Int) → f2 14 = .bool m2 → f2 15 = .int .i64 (i : Int) → f2 16 = .int .i64 (u : Int) → f2 17 = .int .i64 ((j + 1 : Nat) : Int) → WK _ _ _ ⟨f2, n1, H2⟩ _ := fun O2 ys2 m2 H2 h1 h2 h3 h4 f2' g0 g2 g9 g13 g14 g15 g16 g17 => ih4 (w - (j + 1)) (by omega) ⟨f2', n1, H2⟩ ⟨j + 1, O2, ys2, m2, hjl, h1, h2, h3, h4, g0, g2, g9, g13, g14, g15, g16, g17, rfl⟩
      have hfy := hll.fy i hiO hrne
      have hyl := hll.lty hw1 hiO hrne
      have hput : LL n0 (hset H1 (ys i) (.cells ((O[i].map Value.bool).set u (.bool true)) 4 true)) xo 32 4 (fun z => [Value.bool z]) (Mini.put O i u) (upd ys i (ys i)) := by
        unfold Mini.put
        rw [hgO]
        refine hll.put (fun _ => ?_) (fun _ => hfy) (hll.ne i hiO hrne) ?_ (fun v hv' hne hn e => hne (hll.inj v i hv' hiO hn hrne e)) (fun v hv' hne hn => hset_ne _ _ _ (fun e => hne (hll.inj v i hv' hiO hn hrne e)))
        · rw [hset_at, bools_at, List.map_set]
        · rw [hset_ne _ _ _ (fun e => hll.ne i hiO hrne e.symm), hxo1]
          congr 1
          apply List.ext_getElem? fun q => ?_
          by_cases e : q = i
          · subst e
            rw [List.getElem?_set_self (by have := (List.getElem?_eq_some_iff.1 (hll.at hiO)).1; exact this), hll.at hiO, List.length_set]
          · rw [List.getElem?_set_ne (fun h => e h.symm)]
      have hkp := k1.set (.cells ((O[i].map Value.bool).set u (.bool true)) 4 true) hfy hyl
      have hrl1 : u + 1 ≤ (O[i].map Value.bool).length := by rw [List.length_map]; omega
      have ppFit : Mini.Fit N N' O i u j → Mini.Pp N N' w O0 O more (fun s u' t => s < i ∨ s = i ∧ (u' < u ∨ u' = u ∧ t < j + 1)) := fun hf => pp.imp fun s u' t h hs hu' ht hvv => by
        by_cases e : s = i ∧ u' = u ∧ t = j
        · rw [e.1, e.2.1, e.2.2]; exact .inr hf
        · exact .inl (by omega)
      have apN := fun hf => ap.put hil hul hjl hv hf ok ok'
      have ppN := pp.put (Q := fun s u' t => s < i ∨ s = i ∧ (u' < u ∨ u' = u ∧ t < j + 1)) ap hil hul hv
      unfold Mini.Fit at ppFit apN
      rw [a1, a2] at ppFit apN
      by_cases hsg : Y1 < 0 ↔ Y2 < 0
      · by_cases c1 : Y1 < 0
        · have c2 := hsg.1 c1
          have hne : (decide (Y1 < 0) == decide (Y2 < 0)) = true := by rw [decide_eq_true c1, decide_eq_true c2]; rfl
          have c3 : ((0 : Int) ≤ Y1) = False := by simp only [eq_iff_iff, iff_false]; omega
          repeat (first | apply WK.seq | apply WK.block | apply WK.skipSeq | apply WK.skipBlock | apply WK.retSeq | apply WK.retBlock | apply WK.exitSeq | apply WK.exitHere | refine WK.exitOn rfl ?_ | ((first | (refine WK.rgn ?_ ?_; kernel_rfl) | refine AtCall.now ?_); simp (config := { maxSteps := 1000000 }) only [SS, forall_const, wx, tguard, acallee, top, tval, fput, tor, vsh, vbin, vun, tload, tload2, tload3, tstore, tstore2, tstore3, Go.AM.splice, one, tidx, tidx2, tidx3, tlen2, tlen3, tpick, tbs, tbs2, afill, tap, tap2, tap3, tap4, tsrc, tsrc2, Int.reduceEq, Int.reduceNeg, Nat.reduceGT, Nat.reduceLT, Nat.reduceLeDiff, Nat.reduceEqDiff, ↓reduceIte, reduceCtorEq, Int.reduceToNat, Int.reduceLE, Int.reduceLT, Nat.reduceAdd, Nat.reduceMul, f0, f2, f9, f14, f15, f16, f17, hil', hil, hul', hul, h0i, h0u, h0j, hx, ci, hx', cu, hjl', hjl, hxo1, hOi, hyi, hcell, hz, ej, hz', ej', hne, c3, Int.toNat_natCast, Nat.zero_add, ff_12]) | (refine WK.condT ?_ ?_; focus (simp only [ev_tmp, ev_const, fset_apply, Nat.reduceEqDiff, ↓reduceIte, decide_true, decide_false, f0, f2, f9, f14, f15, f16, f17, hil', hil, hul', hul, h0i, h0u, h0j, hx, ci, hx', cu, hjl', hjl, hxo1, hOi, hyi, hcell, hz, ej, hz', ej', hne, c3, Int.toNat_natCast, Nat.zero_add, ff_12]; done)) | (refine WK.condF ?_ ?_; focus (simp only [ev_tmp, ev_const, fset_apply, Nat.reduceEqDiff, ↓reduceIte, decide_true, decide_false, f0, f2, f9, f14, f15, f16, f17, hil', hil, hul', hul, h0i, h0u, h0j, hx, ci, hx', cu, hjl', hjl, hxo1, hOi, hyi, hcell, hz, ej, hz', ej', hne, c3, Int.toNat_natCast, Nat.zero_add, ff_12]; done)))
          refine nextS O ys more _ k1 hll ap (ppFit ⟨hsg, fun h => absurd h (by omega)⟩) _ f0 f2 f9 f13 f14 f15 f16 ?_
          simp only [packed, fset_apply, Nat.reduceEqDiff, ↓reduceIte, List.getD_cons_zero, List.getD_cons_succ, wrap_up hjl hwm, ff_12]
        · have c2 : ¬ Y2 < 0 := fun h => c1 (hsg.2 h)
          obtain ⟨y1, rfl⟩ : ∃ y1 : Nat, Y1 = (y1 : Int) := ⟨Y1.toNat, by omega⟩
          obtain ⟨y2, rfl⟩ : ∃ y2 : Nat, Y2 = (y2 : Int) := ⟨Y2.toNat, by omega⟩
          simp only [Int.toNat_natCast] at ppFit apN
          have hne : (decide ((y1 : Int) < 0) == decide ((y2 : Int) < 0)) = true := by rw [decide_eq_false c1, decide_eq_false c2]; rfl
          have c3 : ((0 : Int) ≤ (y1 : Int)) = True := by simp
          have c4 : ((0 : Int) ≤ (y2 : Int)) = True := by simp
          have g1 : y1 < N.length := by omega
          have g2 : y2 < N'.length := by omega
          have g1' : ((y1 : Int) < (N.length : Int)) = True := by simp only [eq_iff_iff, iff_true]; omega
          have g2' : ((y2 : Int) < (N'.length : Int)) = True := by simp only [eq_iff_iff, iff_true]; omega
          have g1O : y1 < O.length := by rw [ap.len]; exact g1
          have hrow1 : O[y1].length = N'.length := by have := ap.row y1 g1; rwa [Mini.getD_at [] g1O] at this
          have hrne1 : O[y1] ≠ [] := fun e => by rw [e] at hrow1; simp at hrow1; omega
          have hO1 := hll.at g1O
          rw [sl_pos (by rw [hrow1]; omega), hrow1] at hO1
          have hy1 := hll.hy y1 g1O hrne1
          rw [bools_at] at hy1
          have hmv1 : Mini.mv O y1 y2 = O[y1][y2] := by unfold Mini.mv; rw [Mini.getD_at [] g1O]; exact Mini.getD_at _ (by omega)
          have hcell1 : (O[y1].map Value.bool)[y2]? = some (.bool (Mini.mv O y1 y2)) := by rw [List.getElem?_map, List.getElem?_eq_getElem (by omega), hmv1]; rfl
          cases hq : Mini.mv O y1 y2 with
          | true =>
            rw [hq] at hcell1
            repeat (first | apply WK.seq | apply WK.block | apply WK.skipSeq | apply WK.skipBlock | apply WK.retSeq | apply WK.retBlock | apply WK.exitSeq | apply WK.exitHere | refine WK.exitOn rfl ?_ | ((first | (refine WK.rgn ?_ ?_; kernel_rfl) | refine AtCall.now ?_); simp (config := { maxSteps := 1000000 }) only [SS, forall_const, wx, tguard, acallee, top, tval, fput, tor, vsh, vbin, vun, tload, tload2, tload3, tstore, tstore2, tstore3, Go.AM.splice, one, tidx, tidx2, tidx3, tlen2, tlen3, tpick, tbs, tbs2, afill, tap, tap2, tap3, tap4, tsrc, tsrc2, Int.reduceEq, Int.reduceNeg, Nat.reduceGT, Nat.reduceLT, Nat.reduceLeDiff, Nat.reduceEqDiff, ↓reduceIte, reduceCtorEq, Int.reduceToNat, Int.reduceLE, Int.reduceLT, Nat.reduceAdd, Nat.reduceMul, f0, f2, f9, f14, f15, f16, f17, hil', hil, hul', hul, h0i, h0u, h0j, hx, ci, hx', cu, hjl', hjl, hxo1, hOi, hyi, hcell, hz, ej, hz', ej', hne, c3, c4, g1, g2, g1', g2', hO1, hy1, hcell1, hrl1, Int.toNat_natCast, Nat.zero_add, ff_12]) | (refine WK.condT ?_ ?_; focus (simp only [ev_tmp, ev_const, fset_apply, Nat.reduceEqDiff, ↓reduceIte, decide_true, decide_false, f0, f2, f9, f14, f15, f16, f17, hil', hil, hul', hul, h0i, h0u, h0j, hx, ci, hx', cu, hjl', hjl, hxo1, hOi, hyi, hcell, hz, ej, hz', ej', hne, c3, c4, g1, g2, g1', g2', hO1, hy1, hcell1, hrl1, Int.toNat_natCast, Nat.zero_add, ff_12]; done)) | (refine WK.condF ?_ ?_; focus (simp only [ev_tmp, ev_const, fset_apply, Nat.reduceEqDiff, ↓reduceIte, decide_true, decide_false, f0, f2, f9, f14, f15, f16, f17, hil', hil, hul', hul, h0i, h0u, h0j, hx, ci, hx', cu, hjl', hjl, hxo1, hOi, hyi, hcell, hz, ej, hz', ej', hne, c3, c4, g1, g2, g1', g2', hO1, hy1, hcell1, hrl1, Int.toNat_natCast, Nat.zero_add, ff_12]; done)))
            refine nextS _ _ true _ hkp hput (apN fun h => by have := h.2 (by omega); rw [hq] at this; cases this) ppN _ f0 f2 f9 f13 ?_ f15 f16 ?_
            · simp only [packed, fset_apply, Nat.reduceEqDiff, ↓reduceIte, List.getD_cons_zero, List.getD_cons_succ, ff_12]
            · simp only [packed, fset_apply, Nat.reduceEqDiff, ↓reduceIte, List.getD_cons_zero, List.getD_cons_succ, wrap_up hjl hwm, ff_12]
          | false =>
            rw [hq] at hcell1
            repeat (first | apply WK.seq | apply WK.block | apply WK.skipSeq | apply WK.skipBlock | apply WK.retSeq | apply WK.retBlock | apply WK.exitSeq | apply WK.exitHere | refine WK.exitOn rfl ?_ | ((first | (refine WK.rgn ?_ ?_; kernel_rfl) | refine AtCall.now ?_); simp (config := { maxSteps := 1000000 }) only [SS, forall_const, wx, tguard, acallee, top, tval, fput, tor, vsh, vbin, vun, tload, tload2, tload3, tstore, tstore2, tstore3, Go.AM.splice, one, tidx, tidx2, tidx3, tlen2, tlen3, tpick, tbs, tbs2, afill, tap, tap2, tap3, tap4, tsrc, tsrc2, Int.reduceEq, Int.reduceNeg, Nat.reduceGT, Nat.reduceLT, Nat.reduceLeDiff, Nat.reduceEqDiff, ↓reduceIte, reduceCtorEq, Int.reduceToNat, Int.reduceLE, Int.reduceLT, Nat.reduceAdd, Nat.reduceMul, f0, f2, f9, f14, f15, f16, f17, hil', hil, hul', hul, h0i, h0u, h0j, hx, ci, hx', cu, hjl', hjl, hxo1, hOi, hyi, hcell, hz, ej, hz', ej', hne, c3, c4, g1, g2, g1', g2', hO1, hy1, hcell1, Int.toNat_natCast, Nat.zero_add, ff_12]) | (refine WK.condT ?_ ?_; focus (simp only [ev_tmp, ev_const, fset_apply, Nat.reduceEqDiff, ↓reduceIte, decide_true, decide_false, f0, f2, f9, f14, f15, f16, f17, hil', hil, hul', hul, h0i, h0u, h0j, hx, ci, hx', cu, hjl', hjl, hxo1, hOi, hyi, hcell, hz, ej, hz', ej', hne, c3, c4, g1, g2, g1', g2', hO1, hy1, hcell1, Int.toNat_natCast, Nat.zero_add, ff_12]; done)) | (refine WK.condF ?_ ?_; focus (simp only [ev_tmp, ev_const, fset_apply, Nat.reduceEqDiff, ↓reduceIte, decide_true, decide_false, f0, f2, f9, f14, f15, f16, f17, hil', hil, hul', hul, h0i, h0u, h0j, hx, ci, hx', cu, hjl', hjl, hxo1, hOi, hyi, hcell, hz, ej, hz', ej', hne, c3, c4, g1, g2, g1', g2', hO1, hy1, hcell1, Int.toNat_natCast, Nat.zero_add, ff_12]; done)))
            refine nextS O ys more _ k1 hll ap (ppFit ⟨hsg, fun _ => hq⟩) _ f0 f2 f9 f13 f14 f15 f16 ?_
            simp only [packed, fset_apply, Nat.reduceEqDiff, ↓reduceIte, List.getD_cons_zero, List.getD_cons_succ, wrap_up hjl hwm, ff_12]
      · have hne : (decide (Y1 < 0) == decide (Y2 < 0)) = false := by
          rw [beq_eq_false_iff_ne]
          exact fun e => hsg (decide_eq_decide.1 e)
        repeat (first | apply WK.seq | apply WK.block | apply WK.skipSeq | apply WK.skipBlock | apply WK.retSeq | apply WK.retBlock | apply WK.exitSeq | apply WK.exitHere | refine WK.exitOn rfl ?_ | ((first | (refine WK.rgn ?_ ?_; kernel_rfl) | refine AtCall.now ?_); simp (config := { maxSteps := 1000000 }) only [SS, forall_const, wx, tguard, acallee, top, tval, fput, tor, vsh, vbin, vun, tload, tload2, tload3, tstore, tstore2, tstore3, Go.AM.splice, one, tidx, tidx2, tidx3, tlen2, tlen3, tpick, tbs, tbs2, afill, tap, tap2, tap3, tap4, tsrc, tsrc2, Int.reduceEq, Int.reduceNeg, Nat.reduceGT, Nat.reduceLT, Nat.reduceLeDiff, Nat.reduceEqDiff, ↓reduceIte, reduceCtorEq, Int.reduceToNat, Int.reduceLE, Int.reduceLT, Nat.reduceAdd, Nat.reduceMul, f0, f2, f9, f14, f15, f16, f17, hil', hil, hul', hul, h0i, h0u, h0j, hx, ci, hx', cu, hjl', hjl, hxo1, hOi, hyi, hcell, hz, ej, hz', ej', hne, hrl1, Int.toNat_natCast, Nat.zero_add, ff_12]) | (refine WK.condT ?_ ?_; focus (simp only [ev_tmp, ev_const, fset_apply, Nat.reduceEqDiff, ↓reduceIte, decide_true, decide_false, f0, f2, f9, f14, f15, f16, f17, hil', hil, hul', hul, h0i, h0u, h0j, hx, ci, hx', cu, hjl', hjl, hxo1, hOi, hyi, hcell, hz, ej, hz', ej', hne, hrl1, Int.toNat_natCast, Nat.zero_add, ff_12]; done)) | (refine WK.condF ?_ ?_; focus (simp only [ev_tmp, ev_const, fset_apply, Nat.reduceEqDiff, ↓reduceIte, decide_true, decide_false, f0, f2, f9, f14, f15, f16, f17, hil', hil, hul', hul, h0i, h0u, h0j, hx, ci, hx', cu, hjl', hjl, hxo1, hOi, hyi, hcell, hz, ej, hz', ej', hne, hrl1, Int.toNat_natCast, Nat.zero_add, ff_12]; done)))
        refine nextS _ _ true _ hkp hput (apN fun h => hsg h.1) ppN _ f0 f2 f9 f13 ?_ f15 f16 ?_
        · simp only [packed, fset_apply, Nat.reduceEqDiff, ↓reduceIte, List.getD_cons_zero, List.getD_cons_succ, ff_12]
        · simp only [packed, fset_apply, Nat.reduceEqDiff, ↓reduceIte, List.getD_cons_zero, List.getD_cons_succ, wrap_up hjl hwm, ff_12]
end Go.Proofs.YtgnmaekfiifepaaDoor
