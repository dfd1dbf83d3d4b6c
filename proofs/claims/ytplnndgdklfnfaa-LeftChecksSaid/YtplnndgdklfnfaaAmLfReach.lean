/- A part of a proof. Its conditions: none. -/
import Derived.Test.YtplnndgdklfnfaaAmLfEdges
import Derived.Test.YtplnndgdklfnfaaAmC
set_option linter.all false
namespace Go.Proofs.Ytplnndgdklfnfaa
open Go.AM

def bc (b : Bool) : List Value := [.bool b]
theorem flat_bc (r : List Bool) : r.flatMap bc = r.map .bool := by
  induction r with
  | nil => rfl
  | cons a r ih => rw [List.flatMap_cons, ih]; rfl

theorem flat_edc_len (l : List Ed) : (l.flatMap edc).length = l.length * 3 := by
  rw [List.length_flatMap]
  simp only [edc, List.length_cons, List.length_nil]
  rw [List.map_const', List.sum_replicate_nat]

theorem flat_edc_at (l : List Ed) (j : Nat) (h : j < l.length) : ((l.flatMap edc).drop (j * 3)).take 3 = edc l[j] := by
  have e : l = l.take j ++ l[j] :: l.drop (j + 1) := by rw [List.getElem_cons_drop, List.take_append_drop]
  have hl : ((l.take j).flatMap edc).length = j * 3 := by rw [flat_edc_len, List.length_take]; congr; omega
  have e2 : l.flatMap edc = (l.take j).flatMap edc ++ (edc l[j] ++ (l.drop (j + 1)).flatMap edc) := by
    rw [← List.flatMap_cons, ← List.flatMap_append, ← e]
  rw [e2, ← hl, List.drop_left]
  rfl

theorem set_self {α : Type} {l : List α} {i : Nat} {v : α} (h : l[i]? = some v) : l.set i v = l := by
  apply List.ext_getElem?
  intro k
  rw [List.getElem?_set]
  split
  · rename_i e; subst e
    have := (List.getElem?_eq_some_iff.1 h).1
    rw [if_pos this, h]
  · rfl

theorem nil_or_last {α : Type} (l : List α) : l = [] ∨ ∃ t u, l = t ++ [u] := by
  rcases List.eq_nil_or_concat l with h | ⟨t, u, h⟩
  · exact .inl h
  · exact .inr ⟨t, u, by rw [h, List.concat_eq_append]⟩

set_option maxHeartbeats 4000000 in
theorem reach_gives {v : Value} {g : Gram} {n : Nat} {H : Heap} (hw : WF n H) (hg : RG H v g) (wg : WG g) (ok : RightOK g) :
    Gives Try.prog 28 [v] n H fun v _ H' => ∃ rows ys x, n ≤ x ∧ v = .slice (some ⟨x, 0, none⟩) g.vars.length g.vars.length ∧ LL n H' x 30 4 bc rows ys ∧ rows.length = g.vars.length ∧ ∀ v r, rows[v]? = some r → GoodRow g v r := by
  have hg0 := hg
  obtain ⟨pt, pv, pr, rfl, ht, hv, hr⟩ := hg
  refine Gives.of orders ok28 (Nat.le_of_ble_eq_true rfl) ?_
  have hk := Kp.new n H (.cells (gcells pt pv pr g) 25 true)
  have hb := hset_at H n (.cells (gcells pt pv pr g) 25 true)
  have hi := ok.inG
  have hv64 := ok.vars
  have hvl : (g.vars.length : Int) ≤ bigN := by unfold bigN; omega
-- function 28
  repeat (first | apply WK.seq | apply WK.block | apply WK.skipSeq | apply WK.skipBlock | apply WK.retSeq | apply WK.retBlock | apply WK.exitSeq | apply WK.exitHere | refine WK.exitOn rfl ?_)
  (refine WK.rgn ?_ ?_; kernel_rfl; simp (config := { maxSteps := 1000000 }) only [SS, forall_const, wx, tguard, acallee, top, tval, fput, tor, vsh, vbin, vun, tload, tload2, tload3, tstore, tstore2, tstore3, Go.AM.splice, one, tidx, tidx2, tfa, tfa2, tlen2, tbox, talloc, still, still1, flat1, tmake, tbs, tbs2, afill, tsl, tsl2, tsl3, Go.AM.bound, tap, tap2, tap3, tap4, tsrc, tsrc2, Int.reduceEq, Int.reduceNeg, Nat.reduceGT, Nat.reduceLT, Nat.reduceLeDiff, Nat.reduceEqDiff, ↓reduceIte, reduceCtorEq, Int.reduceToNat, Int.reduceLE, Int.reduceLT, Nat.reduceAdd, Nat.reduceMul, box_cells, box_one, ff_28])
  generalize hset H n (.cells (gcells pt pv pr g) 25 true) = H1 at *
  repeat (first | apply WK.seq | apply WK.block | apply WK.skipSeq | apply WK.skipBlock | apply WK.retSeq | apply WK.retBlock | apply WK.exitSeq | apply WK.exitHere | refine WK.exitOn rfl ?_)
  (refine WK.rgn ?_ ?_; kernel_rfl; simp (config := { maxSteps := 1000000 }) only [SS, forall_const, wx, tguard, acallee, top, tval, fput, tor, vsh, vbin, vun, tload, tload2, tload3, tstore, tstore2, tstore3, Go.AM.splice, one, tidx, tidx2, tfa, tfa2, tlen2, tbox, talloc, still, still1, flat1, tmake, tbs, tbs2, afill, tsl, tsl2, tsl3, Go.AM.bound, tap, tap2, tap3, tap4, tsrc, tsrc2, Int.reduceEq, Int.reduceNeg, Nat.reduceGT, Nat.reduceLT, Nat.reduceLeDiff, Nat.reduceEqDiff, ↓reduceIte, reduceCtorEq, Int.reduceToNat, Int.reduceLE, Int.reduceLT, Nat.reduceAdd, Nat.reduceMul, hb, gc_len, gc_all, ff_28])
  refine AtCall.by (edges_gives (hk.wf hw) (hg0.mono hw hk) wg ok) ?_
  rintro v nb Hb kb ⟨es, ya, xa, _, rfl, La, He⟩
  simp (config := { maxSteps := 1000000 }) only [SS, forall_const, wx, tguard, acallee, top, tval, fput, tor, vsh, vbin, vun, tload, tload2, tload3, tstore, tstore2, tstore3, Go.AM.splice, one, tidx, tidx2, tfa, tfa2, tlen2, tbox, talloc, still, still1, flat1, tmake, tbs, tbs2, afill, tsl, tsl2, tsl3, Go.AM.bound, tap, tap2, tap3, tap4, tsrc, tsrc2, Int.reduceEq, Int.reduceNeg, Nat.reduceGT, Nat.reduceLT, Nat.reduceLeDiff, Nat.reduceEqDiff, ↓reduceIte, reduceCtorEq, Int.reduceToNat, Int.reduceLE, Int.reduceLT, Nat.reduceAdd, Nat.reduceMul, ff_28]
  have kk := hk.trans kb
  have wb := kk.wf hw
  have hnb := kk.le
  repeat (first | apply WK.seq | apply WK.block | apply WK.skipSeq | apply WK.skipBlock | apply WK.retSeq | apply WK.retBlock | apply WK.exitSeq | apply WK.exitHere | refine WK.exitOn rfl ?_)
  (refine WK.rgn ?_ ?_; kernel_rfl; simp (config := { maxSteps := 1000000 }) only [SS, forall_const, wx, tguard, acallee, top, tval, fput, tor, vsh, vbin, vun, tload, tload2, tload3, tstore, tstore2, tstore3, Go.AM.splice, one, tidx, tidx2, tfa, tfa2, tlen2, tbox, talloc, still, still1, flat1, tmake, tbs, tbs2, afill, tsl, tsl2, tsl3, Go.AM.bound, tap, tap2, tap3, tap4, tsrc, tsrc2, Int.reduceEq, Int.reduceNeg, Nat.reduceGT, Nat.reduceLT, Nat.reduceLeDiff, Nat.reduceEqDiff, ↓reduceIte, reduceCtorEq, Int.reduceToNat, Int.reduceLE, Int.reduceLT, Nat.reduceAdd, Nat.reduceMul, hvl, ff_28])
  have k3 := Kp.new nb Hb (.cells (rep g.vars.length [.slice none 0 0]) 30 true)
  have L3 := LL.new (m := nb) (ety := 4) (enc := bc) (hset_at Hb nb (.cells (rep g.vars.length [.slice none 0 0]) 30 true))
  generalize hset Hb nb (.cells (rep g.vars.length [.slice none 0 0]) 30 true) = H3 at *
  repeat (first | apply WK.seq | apply WK.block | apply WK.skipSeq | apply WK.skipBlock | apply WK.retSeq | apply WK.retBlock | apply WK.exitSeq | apply WK.exitHere | refine WK.exitOn rfl ?_ | ((first | (refine WK.rgn ?_ ?_; kernel_rfl) | refine AtCall.now ?_); simp (config := { maxSteps := 1000000 }) only [SS, forall_const, wx, tguard, acallee, top, tval, fput, tor, vsh, vbin, vun, tload, tload2, tload3, tstore, tstore2, tstore3, Go.AM.splice, one, tidx, tidx2, tfa, tfa2, tlen2, tbox, talloc, still, still1, flat1, tmake, tbs, tbs2, afill, tsl, tsl2, tsl3, Go.AM.bound, tap, tap2, tap3, tap4, tsrc, tsrc2, Int.reduceEq, Int.reduceNeg, Nat.reduceGT, Nat.reduceLT, Nat.reduceLeDiff, Nat.reduceEqDiff, ↓reduceIte, reduceCtorEq, Int.reduceToNat, Int.reduceLE, Int.reduceLT, Nat.reduceAdd, Nat.reduceMul, ff_28]) | (refine WK.condT ?_ ?_; focus (simp only [ev_tmp, ev_const, fset_apply, Nat.reduceEqDiff, ↓reduceIte, decide_true, decide_false, ff_28]; done)) | (refine WK.condF ?_ ?_; focus (simp only [ev_tmp, ev_const, fset_apply, Nat.reduceEqDiff, ↓reduceIte, decide_true, decide_false, ff_28]; done)))
  refine WK.loop (fun k s => ∃ (i : Nat) (ls : List (List Bool)) (ys : Nat → Nat), Kp nb Hb s.n s.H ∧ LL nb s.H nb 30 4 bc ls ys ∧ s.f 3 = .slice (some ⟨xa, 0, none⟩) g.vars.length g.vars.length ∧ s.f 4 = .slice (some ⟨nb, 0, none⟩) g.vars.length g.vars.length ∧
      s.f 16 = .int .i64 g.vars.length ∧ s.f 17 = .int .i64 (i : Nat) ∧ i ≤ g.vars.length ∧ ls.length = g.vars.length ∧ (∀ v r, v < i → ls[v]? = some r → GoodRow g v r) ∧ (∀ v r, i ≤ v → ls[v]? = some r → r = []) ∧ k = g.vars.length - i) g.vars.length ?_ ?_
  · exact ⟨0, _, _, k3, L3, rfl, rfl, rfl, rfl, Nat.zero_le _, by simp, (fun v r h => by omega), (fun v r _ h => by rw [List.getElem?_replicate] at h; split at h <;> simp at h; exact h), rfl⟩
  rintro kk' ⟨f, n4, H4⟩ ⟨i, ls, ys, kp, L, f3, f4, f16, f17, hiv, hll, hgood, hnil, rfl⟩ ih
  simp only at f3 f4 f16 f17 ih kp L
  have hw4 := kp.wf wb
  have hnx := L.ltx hw4
  by_cases hjr : i < g.vars.length
  · have hjr' : i + 1 ≤ ls.length := by omega
    have hx4 : ∀ o, hset H4 n4 o nb = _ := fun o => (hset_ne _ _ _ (by omega)).trans L.hx
    repeat (first | apply WK.seq | apply WK.block | apply WK.skipSeq | apply WK.skipBlock | apply WK.retSeq | apply WK.retBlock | apply WK.exitSeq | apply WK.exitHere | refine WK.exitOn rfl ?_ | ((first | (refine WK.rgn ?_ ?_; kernel_rfl) | refine AtCall.now ?_); simp (config := { maxSteps := 1000000 }) only [SS, forall_const, wx, tguard, acallee, top, tval, fput, tor, vsh, vbin, vun, tload, tload2, tload3, tstore, tstore2, tstore3, Go.AM.splice, one, tidx, tidx2, tfa, tfa2, tlen2, tbox, talloc, still, still1, flat1, tmake, tbs, tbs2, afill, tsl, tsl2, tsl3, Go.AM.bound, tap, tap2, tap3, tap4, tsrc, tsrc2, Int.reduceEq, Int.reduceNeg, Nat.reduceGT, Nat.reduceLT, Nat.reduceLeDiff, Nat.reduceEqDiff, ↓reduceIte, reduceCtorEq, Int.reduceToNat, Int.reduceLE, Int.reduceLT, Nat.reduceAdd, Nat.reduceMul, f3, f4, f16, f17, hjr, hvl, hx4, llcells_length, hjr', ebs_35_1, ff_28]) | (refine WK.condT ?_ ?_; focus (simp only [ev_tmp, ev_const, fset_apply, Nat.reduceEqDiff, ↓reduceIte, decide_true, decide_false, f3, f4, f16, f17, hjr, hvl, hx4, llcells_length, hjr', ebs_35_1, ff_28]; done)) | (refine WK.condF ?_ ?_; focus (simp only [ev_tmp, ev_const, fset_apply, Nat.reduceEqDiff, ↓reduceIte, decide_true, decide_false, f3, f4, f16, f17, hjr, hvl, hx4, llcells_length, hjr', ebs_35_1, ff_28]; done)))
    rw [rep_map]
    have kp1 := ((kp.trans (Kp.new n4 H4 (.cells ((List.replicate g.vars.length false).map .bool) 4 true))).set (x := nb) (.cells ((llcells ys ls).set i (.slice (some ⟨n4, 0, none⟩) g.vars.length g.vars.length)) 30 true) (Nat.le_refl _) (by omega)).trans (Kp.new (n4 + 1) _ (.cells [.int .i64 (i : Nat)] 3 true))
    have hy0 := hset_at (hset (hset H4 n4 (.cells ((List.replicate g.vars.length false).map .bool) 4 true)) nb (.cells ((llcells ys ls).set i (.slice (some ⟨n4, 0, none⟩) g.vars.length g.vars.length)) 30 true)) (n4 + 1) (.cells [.int .i64 (i : Nat)] 3 true)
    have hvp := ok.vars1
    have hil : i < ls.length := by omega
    have L1 : LL nb (hset (hset (hset H4 n4 (.cells ((List.replicate g.vars.length false).map .bool) 4 true)) nb (.cells ((llcells ys ls).set i (.slice (some ⟨n4, 0, none⟩) g.vars.length g.vars.length)) 30 true)) (n4 + 1) (.cells [.int .i64 (i : Nat)] 3 true)) nb 30 4 bc (ls.set i (List.replicate g.vars.length false)) (upd ys i n4) := by
      refine L.put (fun _ => ?_) (fun _ => by omega) (by omega) ?_ (fun v hv hn hv' => ?_) (fun v hv hn hv' => ?_)
      · rw [flat_bc]
        exact (hset_ne _ _ _ (by omega)).trans ((hset_ne _ _ _ (by omega)).trans (hset_at _ _ _))
      · rw [sl_pos (by rw [List.length_replicate]; omega), List.length_replicate]
        exact (hset_ne _ _ _ (by omega)).trans (hset_at _ _ _)
      · have := L.lty hw4 hv hv'; omega
      · have h1 := L.lty hw4 hv hv'
        have h2 := L.ne v hv hv'
        exact (hset_ne _ _ _ (by omega)).trans ((hset_ne _ _ _ h2).trans (hset_ne _ _ _ (by omega)))
    have hny : ∀ v (h : v < (ls.set i (List.replicate g.vars.length false)).length), (ls.set i (List.replicate g.vars.length false))[v] ≠ [] → upd ys i n4 v ≠ n4 + 1 := by
      intro v h hn'
      by_cases e : v = i
      · subst e; rw [upd_at]; omega
      · rw [upd_ne _ _ _ e]
        rw [List.getElem_set_ne (Ne.symm e)] at hn'
        have := L.lty hw4 (by simpa using h) hn'; omega
    generalize hset (hset (hset H4 n4 (.cells ((List.replicate g.vars.length false).map .bool) 4 true)) nb (.cells ((llcells ys ls).set i (.slice (some ⟨n4, 0, none⟩) g.vars.length g.vars.length)) 30 true)) (n4 + 1) (.cells [.int .i64 (i : Nat)] 3 true) = H5 at *
    -- what is to be done
    refine WK.loop (fun k s => ∃ (ls : List (List Bool)) (ys : Nat → Nat) (r : List Bool) (todo : List Nat) (y : Nat) (cs : List Value), Kp nb Hb s.n s.H ∧ LL nb s.H nb 30 4 bc ls ys ∧ s.f 3 = .slice (some ⟨xa, 0, none⟩) g.vars.length g.vars.length ∧ s.f 4 = .slice (some ⟨nb, 0, none⟩) g.vars.length g.vars.length ∧
        s.f 16 = .int .i64 g.vars.length ∧ s.f 17 = .int .i64 (i : Nat) ∧ s.f 5 = .int .i64 (i : Nat) ∧ s.f 6 = .slice (some ⟨y, 0, none⟩) todo.length todo.length ∧ s.H y = .cells cs 3 true ∧ cs.take todo.length = todo.map (fun u => .int .i64 (u : Nat)) ∧ nb ≤ y ∧ y ≠ nb ∧ (∀ v (h : v < ls.length), ls[v] ≠ [] → ys v ≠ y) ∧
        ls.length = g.vars.length ∧ (∀ v r, v < i → ls[v]? = some r → GoodRow g v r) ∧ (∀ v r, i < v → ls[v]? = some r → r = []) ∧ ls[i]? = some r ∧ r.length = g.vars.length ∧ Work g i r todo (fun _ => False) ∧ todo.length + r.count false ≤ g.vars.length + 1 ∧ (∀ u ∈ todo, u < g.vars.length) ∧ k = todo.length + r.count false) (g.vars.length + 1) ?_ ?_
    · refine ⟨_, _, List.replicate g.vars.length false, [i], n4 + 1, [.int .i64 (i : Nat)], kp1, L1, f3, f4, f16, f17, rfl, rfl, hy0, rfl, by omega, by omega, hny, by rw [List.length_set]; exact hll, (fun v r hv h => ?_), (fun v r hv h => ?_), ?_, by simp, Work.start _ _ _, ?_, ?_, ?_⟩
      · rw [List.getElem?_set_ne (by omega)] at h; exact hgood v r hv h
      · rw [List.getElem?_set_ne (by omega)] at h; exact hnil v r (by omega) h
      · rw [List.getElem?_set]; simp [hil]
      · simp [List.count_replicate]; omega
      · intro u hu; simp at hu; omega
      · simp [List.count_replicate]; omega
    clear L1 hny hy0 kp1 hgood hnil L hx4 kp f3 f4 f16 f17 hll hil hjr' hnx
    rintro kk' ⟨f, n5, H6⟩ ⟨ls, ys, r, todo, y, cs, kp, L, f3, f4, f16, f17, f5, f6, hy, htake, hyb, hyn, hny, hll, hgood, hnil, hri, hrl, W, hsz, htv, rfl⟩ ih2
    simp only at f3 f4 f16 f17 f5 f6 ih2 kp L hy
    have hw6 := kp.wf wb
    have La6 := La.kp wb kp
    rcases nil_or_last todo with rfl | ⟨t0, u, rfl⟩
    · have h00 : ((0 : Int) < ((0 : Nat) : Int)) = False := by simp
      repeat (first | apply WK.seq | apply WK.block | apply WK.skipSeq | apply WK.skipBlock | apply WK.retSeq | apply WK.retBlock | apply WK.exitSeq | apply WK.exitHere | refine WK.exitOn rfl ?_ | ((first | (refine WK.rgn ?_ ?_; kernel_rfl) | refine AtCall.now ?_); simp (config := { maxSteps := 1000000 }) only [SS, forall_const, wx, tguard, acallee, top, tval, fput, tor, vsh, vbin, vun, tload, tload2, tload3, tstore, tstore2, tstore3, Go.AM.splice, one, tidx, tidx2, tfa, tfa2, tlen2, tbox, talloc, still, still1, flat1, tmake, tbs, tbs2, afill, tsl, tsl2, tsl3, Go.AM.bound, tap, tap2, tap3, tap4, tsrc, tsrc2, Int.reduceEq, Int.reduceNeg, Nat.reduceGT, Nat.reduceLT, Nat.reduceLeDiff, Nat.reduceEqDiff, ↓reduceIte, reduceCtorEq, Int.reduceToNat, Int.reduceLE, Int.reduceLT, Nat.reduceAdd, Nat.reduceMul, f6, f17, h00, ff_28]) | (refine WK.condT ?_ ?_; focus (simp only [ev_tmp, ev_const, fset_apply, Nat.reduceEqDiff, ↓reduceIte, decide_true, decide_false, f6, f17, h00, ff_28]; done)) | (refine WK.condF ?_ ?_; focus (simp only [ev_tmp, ev_const, fset_apply, Nat.reduceEqDiff, ↓reduceIte, decide_true, decide_false, f6, f17, h00, ff_28]; done)))
      refine ih (g.vars.length - (i + 1)) (by omega) _ ⟨i + 1, ls, ys, kp, L, f3, f4, f16, ?_, hjr, hll, fun v r' hv h => ?_, fun v r' hv h => hnil v r' (by omega) h, rfl⟩
      · simp only [packed, fset_apply, Nat.reduceEqDiff, ↓reduceIte, List.getD_cons_zero, List.getD_cons_succ, ff_28]
        rw [wrap_in (by omega) (by omega)]; rfl
      · rcases Nat.lt_or_ge v i with h1 | h1
        · exact hgood v r' h1 h
        · have : v = i := by omega
          subst this
          rw [hri] at h; cases h
          exact W.good hrl
    · have hlen : (t0 ++ [u]).length = t0.length + 1 := by simp
      rw [hlen] at f6 htake hsz ih2
      have h0 : (0 : Int) < ((t0.length + 1 : Nat) : Int) := by omega
      have hu := htv u (by simp)
      have hwr : IntKind.i64.wrap (((t0.length + 1 : Nat) : Int) - 1) = ((t0.length : Nat) : Int) := by rw [wrap_in (by omega) (by omega)]; omega
      have hcs : cs[t0.length]? = some (.int .i64 (u : Nat)) := by
        have h1 : (cs.take (t0.length + 1))[t0.length]? = some (.int .i64 (u : Nat)) := by rw [htake]; simp
        rw [List.getElem?_take] at h1
        simpa using h1
      have hub : u < es.length := by rw [He.len]; exact hu
      have hesu := La6.at hub
      rw [sl_eq] at hesu
      have hxa := La6.hx
      have hfew := He.few u hub
      have W1 := W.pop
      repeat (first | apply WK.seq | apply WK.block | apply WK.skipSeq | apply WK.skipBlock | apply WK.retSeq | apply WK.retBlock | apply WK.exitSeq | apply WK.exitHere | refine WK.exitOn rfl ?_ | ((first | (refine WK.rgn ?_ ?_; kernel_rfl) | refine AtCall.now ?_); simp (config := { maxSteps := 1000000 }) only [SS, forall_const, wx, tguard, acallee, top, tval, fput, tor, vsh, vbin, vun, tload, tload2, tload3, tstore, tstore2, tstore3, Go.AM.splice, one, tidx, tidx2, tfa, tfa2, tlen2, tbox, talloc, still, still1, flat1, tmake, tbs, tbs2, afill, tsl, tsl2, tsl3, Go.AM.bound, tap, tap2, tap3, tap4, tsrc, tsrc2, Int.reduceEq, Int.reduceNeg, Nat.reduceGT, Nat.reduceLT, Nat.reduceLeDiff, Nat.reduceEqDiff, ↓reduceIte, reduceCtorEq, Int.reduceToNat, Int.reduceLE, Int.reduceLT, Nat.reduceAdd, Nat.reduceMul, f3, f4, f6, f17, h0, hwr, hy, hcs, hu, hxa, hesu, isz_3, Nat.lt_succ_self, Nat.le_succ, Nat.sub_zero, undT_57, ff_28]) | (refine WK.condT ?_ ?_; focus (simp only [ev_tmp, ev_const, fset_apply, Nat.reduceEqDiff, ↓reduceIte, decide_true, decide_false, f3, f4, f6, f17, h0, hwr, hy, hcs, hu, hxa, hesu, isz_3, Nat.lt_succ_self, Nat.le_succ, Nat.sub_zero, undT_57, ff_28]; done)) | (refine WK.condF ?_ ?_; focus (simp only [ev_tmp, ev_const, fset_apply, Nat.reduceEqDiff, ↓reduceIte, decide_true, decide_false, f3, f4, f6, f17, h0, hwr, hy, hcs, hu, hxa, hesu, isz_3, Nat.lt_succ_self, Nat.le_succ, Nat.sub_zero, undT_57, ff_28]; done)))
      refine WK.loop (fun k s => ∃ (j : Nat) (ls : List (List Bool)) (ys : Nat → Nat) (r1 : List Bool) (todo : List Nat) (y : Nat) (cs : List Value), Kp nb Hb s.n s.H ∧ LL nb s.H nb 30 4 bc ls ys ∧ s.f 3 = .slice (some ⟨xa, 0, none⟩) g.vars.length g.vars.length ∧ s.f 4 = .slice (some ⟨nb, 0, none⟩) g.vars.length g.vars.length ∧
          s.f 16 = .int .i64 g.vars.length ∧ s.f 17 = .int .i64 (i : Nat) ∧ s.f 5 = .int .i64 (i : Nat) ∧ s.f 6 = .slice (some ⟨y, 0, none⟩) todo.length todo.length ∧ s.H y = .cells cs 3 true ∧ cs.take todo.length = todo.map (fun u => .int .i64 (u : Nat)) ∧ nb ≤ y ∧ y ≠ nb ∧ (∀ v (h : v < ls.length), ls[v] ≠ [] → ys v ≠ y) ∧
          ls.length = g.vars.length ∧ (∀ v r, v < i → ls[v]? = some r → GoodRow g v r) ∧ (∀ v r, i < v → ls[v]? = some r → r = []) ∧ ls[i]? = some r1 ∧ r1.length = g.vars.length ∧ Work g i r1 todo (fun w => w = u) ∧ todo.length + r1.count false = t0.length + r.count false ∧ (∀ u ∈ todo, u < g.vars.length) ∧
          s.f 45 = .slice (slp (ya u) es[u].length) es[u].length es[u].length ∧ s.f 46 = .int .i64 es[u].length ∧ s.f 47 = .int .i64 (j : Nat) ∧ j ≤ es[u].length ∧ (u = i ∨ r1[u]? = some true) ∧ (∀ q (h : q < es[u].length), q < j → r1[(es[u][q]).to]? = some true) ∧ k = es[u].length - j) es[u].length ?_ ?_
      · refine ⟨0, ls, ys, r, t0, y, cs, kp, L, f3, f4, f16, f17, f5, rfl, hy, ?_, hyb, hyn, hny, hll, hgood, hnil, hri, hrl, W1, rfl, fun w hw => htv w (by simp [hw]), rfl, rfl, rfl, Nat.zero_le _, W.known u (by simp), (fun q h hq => by omega), rfl⟩
        have h1 : (cs.take (t0.length + 1)).take t0.length = t0.map (fun u => Value.int .i64 (u : Nat)) := by rw [htake]; simp
        rw [List.take_take] at h1
        rwa [Nat.min_eq_left (Nat.le_succ _)] at h1
      clear W1 W hesu hcs hwr hxa htake hny hnil hri hgood hy hll L La6 f3 f4 f16 f17 f5 f6 hw6
      rintro kk' ⟨f, n6, H7⟩ ⟨j, ls, ys, r1, todo, y, cs, kp, L, f3, f4, f16, f17, f5, f6, hy, htake, hyb, hyn, hny, hll, hgood, hnil, hri, hrl1, W, hsz1, htv1, f45, f46, f47, hj, hui, hdone, rfl⟩ ih3
      simp only at f3 f4 f16 f17 f5 f6 f45 f46 f47 ih3 kp L hy
      have hw7 := kp.wf wb
      have La7 := La.kp wb kp
      by_cases hjl : j < es[u].length
      · have hne : es[u] ≠ [] := by intro e; rw [e] at hjl; simp at hjl
        have hlen0 : es[u].length ≠ 0 := by omega
        rw [slp_pos hlen0] at f45
        have hya := La7.hy u hub hne
        have hft : ((es[u].flatMap edc).drop (j * 3)).take 3 = [.int .i64 (es[u][j]).rule, .int .i64 (es[u][j]).at_, .int .i64 (es[u][j]).to] := flat_edc_at _ _ hjl
        have hE := (He.mem u hub es[u][j]).1 (List.getElem_mem hjl)
        have het0 := hE.right hi
        have het : (es[u][j]).to < g.vars.length := by omega
        have hbeg : Beg g u (es[u][j]).to := ⟨_, _, hE⟩
        obtain ⟨et, hete⟩ : ∃ et, (es[u][j]).to = et := ⟨_, rfl⟩
        rw [hete] at hft hE het0 het hbeg
        have hlb : j * 3 + 3 ≤ (es[u].flatMap edc).length := by rw [flat_edc_len]; omega
        have hil : i < ls.length := by omega
        have hlsi : ls[i] = r1 := by rw [List.getElem?_eq_getElem hil] at hri; exact Option.some.inj hri
        have hr1n : ls[i] ≠ [] := by rw [hlsi]; intro e; rw [e] at hrl1; simp at hrl1; omega
        have hrow0 := L.at hil
        rw [sl_pos (by rw [hlsi, hrl1]; have := ok.vars1; omega), hlsi, hrl1] at hrow0
        have hyi := L.hy i hil hr1n
        rw [hlsi, flat_bc] at hyi
        have hyi1 := L.lty hw7 hil hr1n
        have hyi2 := L.fy i hil hr1n
        have hyi3 := L.ne i hil hr1n
        have hyi4 := hny i hil hr1n
        have hyn6 : y < n6 := live_lt hw7 (live_of hy)
        have hnbn6 := L.ltx hw7
        have a1 : ∀ o, hset H7 n6 o nb = _ := fun o => (hset_ne _ _ _ (by omega)).trans L.hx
        have a2 : ∀ o, hset H7 n6 o (ys i) = _ := fun o => (hset_ne _ _ _ (by omega)).trans hyi
        have a3 : ∀ o o2, hset (hset H7 n6 o) (ys i) o2 n6 = o := fun o o2 => (hset_ne _ _ _ (by omega)).trans (hset_at _ _ _)
        have a4 : ∀ o o2 o3, hset (hset (hset H7 n6 o) (ys i) o2) (n6 + 1) o3 y = _ := fun o o2 o3 => (hset_ne _ _ _ (by omega)).trans ((hset_ne _ _ _ (by omega)).trans ((hset_ne _ _ _ (by omega)).trans hy))
        have hetl : et < r1.length := by omega
        have hetg : (r1.map Value.bool)[et]? = some (.bool r1[et]) := by rw [List.getElem?_map, List.getElem?_eq_getElem hetl]; rfl
        have hjw : IntKind.i64.wrap ((j : Int) + 1) = ((j + 1 : Nat) : Int) := by
          have := He.few u hub
          rw [wrap_in (by omega) (by omega)]; rfl
        cases hbt : r1[et]
        · rw [hbt] at hetg
          have b1 : todo.length ≤ cs.length := by
            have := congrArg List.length htake
            rw [List.length_take, List.length_map] at this; omega
          have b2 : [n6 + 1].contains y = false := by simp; omega
          have b3 : todo.length + 1 ≤ bigN := by unfold bigN; omega
          have b4 : et + 1 ≤ g.vars.length := het
          have hset' : (r1.map Value.bool).set et (.bool true) = (r1.set et true).map .bool := by rw [List.map_set]
          have hcnt := count_set_lt hetl hbt
          repeat (first | apply WK.seq | apply WK.block | apply WK.skipSeq | apply WK.skipBlock | apply WK.retSeq | apply WK.retBlock | apply WK.exitSeq | apply WK.exitHere | refine WK.exitOn rfl ?_ | ((first | (refine WK.rgn ?_ ?_; kernel_rfl) | refine AtCall.now ?_); simp (config := { maxSteps := 1000000 }) only [SS, forall_const, wx, tguard, acallee, top, tval, fput, tor, vsh, vbin, vun, tload, tload2, tload3, tstore, tstore2, tstore3, Go.AM.splice, one, tidx, tidx2, tfa, tfa2, tlen2, tbox, talloc, still, still1, flat1, tmake, tbs, tbs2, afill, tsl, tsl2, tsl3, Go.AM.bound, tap, tap2, tap3, tap4, tsrc, tsrc2, Int.reduceEq, Int.reduceNeg, Nat.reduceGT, Nat.reduceLT, Nat.reduceLeDiff, Nat.reduceEqDiff, ↓reduceIte, reduceCtorEq, Int.reduceToNat, Int.reduceLE, Int.reduceLT, Nat.reduceAdd, Nat.reduceMul, f3, f4, f5, f6, f45, f46, f47, hjl, hya, hft, hete, hlb, hrow0, a1, a2, a3, a4, hetg, hjr, het, b1, b2, b3, b4, hset', List.length_map, hrl1, htake, List.drop_zero, ebs_35_1, ff_28]) | (refine WK.condT ?_ ?_; focus (simp only [ev_tmp, ev_const, fset_apply, Nat.reduceEqDiff, ↓reduceIte, decide_true, decide_false, f3, f4, f5, f6, f45, f46, f47, hjl, hya, hft, hete, hlb, hrow0, a1, a2, a3, a4, hetg, hjr, het, b1, b2, b3, b4, hset', List.length_map, hrl1, htake, List.drop_zero, ebs_35_1, ff_28]; done)) | (refine WK.condF ?_ ?_; focus (simp only [ev_tmp, ev_const, fset_apply, Nat.reduceEqDiff, ↓reduceIte, decide_true, decide_false, f3, f4, f5, f6, f45, f46, f47, hjl, hya, hft, hete, hlb, hrow0, a1, a2, a3, a4, hetg, hjr, het, b1, b2, b3, b4, hset', List.length_map, hrl1, htake, List.drop_zero, ebs_35_1, ff_28]; done)))
          have kp1 := ((((kp.trans (Kp.new n6 H7 (.cells [.int .i64 (es[u][j]).rule, .int .i64 (es[u][j]).at_, .int .i64 et] 60 true))).set (x := ys i) (.cells ((r1.set et true).map .bool) 4 true) hyi2 (by omega)).trans (Kp.new (n6 + 1) _ (.cells [.int .i64 et] 3 true))).set (x := y) .dead hyb (by omega)).trans (Kp.new (n6 + 1 + 1) _ (.cells (todo.map (fun u => .int .i64 (u : Nat)) ++ [.int .i64 et]) 3 true))
          have L1 : LL nb _ nb 30 4 bc (ls.set i (r1.set et true)) (upd ys i (ys i)) := L.put (H' := hset (hset (hset (hset (hset H7 n6 (.cells [.int .i64 (es[u][j]).rule, .int .i64 (es[u][j]).at_, .int .i64 et] 60 true)) (ys i) (.cells ((r1.set et true).map .bool) 4 true)) (n6 + 1) (.cells [.int .i64 et] 3 true)) y .dead) (n6 + 1 + 1) (.cells (todo.map (fun u => .int .i64 (u : Nat)) ++ [.int .i64 et]) 3 true))
            (v := i) (y := ys i) (l := r1.set et true) (fun _ => by
              rw [flat_bc]
              exact (hset_ne _ _ _ (by omega)).trans ((hset_ne _ _ _ hyi4).trans ((hset_ne _ _ _ (by omega)).trans (hset_at _ _ _)))) (fun _ => hyi2) hyi3 (by
              have e : (llcells ys ls).set i (sl (ys i) (r1.set et true).length) = llcells ys ls := by
                refine set_self ?_
                rw [L.at hil, hlsi, List.length_set]
              rw [e]
              exact (hset_ne _ _ _ (by omega)).trans ((hset_ne _ _ _ (Ne.symm hyn)).trans ((hset_ne _ _ _ (by omega)).trans ((hset_ne _ _ _ (Ne.symm hyi3)).trans ((hset_ne _ _ _ (by omega)).trans L.hx)))))
            (fun v hv hn hv' e => hn (L.inj v i hv hil hv' hr1n e)) (fun v hv hn hv' => by
              have h1 := L.lty hw7 hv hv'
              have h3 : ys v ≠ ys i := fun e => hn (L.inj v i hv hil hv' hr1n e)
              have h4 := hny v hv hv'
              exact (hset_ne _ _ _ (by omega)).trans ((hset_ne _ _ _ h4).trans ((hset_ne _ _ _ (by omega)).trans ((hset_ne _ _ _ h3).trans (hset_ne _ _ _ (by omega))))))
          have eu : upd ys i (ys i) = ys := by
            funext w
            unfold upd
            split
            · rename_i e; rw [e]
            · rfl
          rw [eu] at L1
          refine ih3 (es[u].length - (j + 1)) (by omega) _ ⟨j + 1, ls.set i (r1.set et true), ys, r1.set et true, todo ++ [et], n6 + 1 + 1, todo.map (fun u => .int .i64 (u : Nat)) ++ [.int .i64 et], kp1, L1, f3, f4, f16, f17, f5, ?_, hset_at _ _ _, ?_, by omega, by omega, fun v hv hv' => ?_, by rw [List.length_set]; exact hll,
            fun v r hv h => ?_, fun v r hv h => ?_, ?_, by rw [List.length_set]; exact hrl1, W.push hui hbeg hetl, ?_, ?_, ?_, f46, ?_, hjl, ?_, fun q hq hq' => ?_, rfl⟩
          · simp only [packed, fset_apply, Nat.reduceEqDiff, ↓reduceIte, List.getD_cons_zero, List.getD_cons_succ, ff_28]
            simp
          · rw [List.map_append]; exact List.take_of_length_le (by simp)
          · by_cases e : v = i
            · subst e; omega
            · rw [List.getElem_set_ne (Ne.symm e)] at hv'
              have := L.lty hw7 (by simpa using hv) hv'; omega
          · rw [List.getElem?_set_ne (by omega)] at h; exact hgood v r hv h
          · rw [List.getElem?_set_ne (by omega)] at h; exact hnil v r hv h
          · rw [List.getElem?_set]; simp [hil]
          · have : (r1.set et true).count false + 1 = r1.count false := by
              have h1 : 0 < r1.count false := List.count_pos_iff.2 (hbt ▸ List.getElem_mem hetl)
              rw [List.count_set hetl, hbt]
              simp
              omega
            rw [List.length_append]; simp; omega
          · intro w hw
            simp at hw
            rcases hw with hw | hw
            · exact htv1 w hw
            · omega
          · rw [slp_pos hlen0]; exact f45
          · simp only [packed, fset_apply, Nat.reduceEqDiff, ↓reduceIte, List.getD_cons_zero, List.getD_cons_succ, hjw, ff_28]
          · rcases hui with h | h
            · exact .inl h
            · right
              rw [List.getElem?_set]
              split
              · rename_i e; subst e; simp [hetl]
              · exact h
          · rw [List.getElem?_set]
            split
            · first | rfl | simp [hetl]
            · rename_i e
              rcases Nat.lt_or_ge q j with h1 | h1
              · exact hdone q hq h1
              · have : q = j := by omega
                subst this; exact absurd hete (fun h => e h.symm)
        · rw [hbt] at hetg
          repeat (first | apply WK.seq | apply WK.block | apply WK.skipSeq | apply WK.skipBlock | apply WK.retSeq | apply WK.retBlock | apply WK.exitSeq | apply WK.exitHere | refine WK.exitOn rfl ?_ | ((first | (refine WK.rgn ?_ ?_; kernel_rfl) | refine AtCall.now ?_); simp (config := { maxSteps := 1000000 }) only [SS, forall_const, wx, tguard, acallee, top, tval, fput, tor, vsh, vbin, vun, tload, tload2, tload3, tstore, tstore2, tstore3, Go.AM.splice, one, tidx, tidx2, tfa, tfa2, tlen2, tbox, talloc, still, still1, flat1, tmake, tbs, tbs2, afill, tsl, tsl2, tsl3, Go.AM.bound, tap, tap2, tap3, tap4, tsrc, tsrc2, Int.reduceEq, Int.reduceNeg, Nat.reduceGT, Nat.reduceLT, Nat.reduceLeDiff, Nat.reduceEqDiff, ↓reduceIte, reduceCtorEq, Int.reduceToNat, Int.reduceLE, Int.reduceLT, Nat.reduceAdd, Nat.reduceMul, f3, f4, f5, f6, f45, f46, f47, hjl, hya, hft, hlb, hrow0, a1, a2, hetg, hjr, het, ff_28]) | (refine WK.condT ?_ ?_; focus (simp only [ev_tmp, ev_const, fset_apply, Nat.reduceEqDiff, ↓reduceIte, decide_true, decide_false, f3, f4, f5, f6, f45, f46, f47, hjl, hya, hft, hlb, hrow0, a1, a2, hetg, hjr, het, ff_28]; done)) | (refine WK.condF ?_ ?_; focus (simp only [ev_tmp, ev_const, fset_apply, Nat.reduceEqDiff, ↓reduceIte, decide_true, decide_false, f3, f4, f5, f6, f45, f46, f47, hjl, hya, hft, hlb, hrow0, a1, a2, hetg, hjr, het, ff_28]; done)))
          refine ih3 (es[u].length - (j + 1)) (by omega) _ ⟨j + 1, ls, ys, r1, todo, y, cs, kp.trans (Kp.new _ _ _), L.kp hw7 (Kp.new _ _ _), f3, f4, f16, f17, f5, f6, (hset_ne _ _ _ (by omega)).trans hy, htake, hyb, hyn, hny, hll, hgood, hnil, hri, hrl1, W, hsz1, htv1, ?_, f46, ?_, hjl, hui, fun q hq hq' => ?_, rfl⟩
          · rw [slp_pos hlen0]; exact f45
          · simp only [packed, fset_apply, Nat.reduceEqDiff, ↓reduceIte, List.getD_cons_zero, List.getD_cons_succ, f47, hjw, ff_28]
          · rcases Nat.lt_or_ge q j with h1 | h1
            · exact hdone q hq h1
            · have : q = j := by omega
              subst this
              rw [hete, List.getElem?_eq_getElem hetl, hbt]
      · repeat (first | apply WK.seq | apply WK.block | apply WK.skipSeq | apply WK.skipBlock | apply WK.retSeq | apply WK.retBlock | apply WK.exitSeq | apply WK.exitHere | refine WK.exitOn rfl ?_ | ((first | (refine WK.rgn ?_ ?_; kernel_rfl) | refine AtCall.now ?_); simp (config := { maxSteps := 1000000 }) only [SS, forall_const, wx, tguard, acallee, top, tval, fput, tor, vsh, vbin, vun, tload, tload2, tload3, tstore, tstore2, tstore3, Go.AM.splice, one, tidx, tidx2, tfa, tfa2, tlen2, tbox, talloc, still, still1, flat1, tmake, tbs, tbs2, afill, tsl, tsl2, tsl3, Go.AM.bound, tap, tap2, tap3, tap4, tsrc, tsrc2, Int.reduceEq, Int.reduceNeg, Nat.reduceGT, Nat.reduceLT, Nat.reduceLeDiff, Nat.reduceEqDiff, ↓reduceIte, reduceCtorEq, Int.reduceToNat, Int.reduceLE, Int.reduceLT, Nat.reduceAdd, Nat.reduceMul, f46, f47, hjl, ff_28]) | (refine WK.condT ?_ ?_; focus (simp only [ev_tmp, ev_const, fset_apply, Nat.reduceEqDiff, ↓reduceIte, decide_true, decide_false, f46, f47, hjl, ff_28]; done)) | (refine WK.condF ?_ ?_; focus (simp only [ev_tmp, ev_const, fset_apply, Nat.reduceEqDiff, ↓reduceIte, decide_true, decide_false, f46, f47, hjl, ff_28]; done)))
        refine ih2 _ ?_ _ ⟨ls, ys, r1, todo, y, cs, kp, L, f3, f4, f16, f17, f5, f6, hy, htake, hyb, hyn, hny, hll, hgood, hnil, hri, hrl1, W.done (fun w hb => ?_), by omega, htv1, rfl⟩
        · rw [hsz1]; omega
        · obtain ⟨r', a', hE⟩ := hb
          have hm := (He.mem u hub ⟨r', a', w⟩).2 hE
          obtain ⟨q, hq, e⟩ := List.getElem_of_mem hm
          have := hdone q hq (by omega)
          rw [e] at this; exact this
  · repeat (first | apply WK.seq | apply WK.block | apply WK.skipSeq | apply WK.skipBlock | apply WK.retSeq | apply WK.retBlock | apply WK.exitSeq | apply WK.exitHere | refine WK.exitOn rfl ?_ | ((first | (refine WK.rgn ?_ ?_; kernel_rfl) | refine AtCall.now ?_); simp (config := { maxSteps := 1000000 }) only [SS, forall_const, wx, tguard, acallee, top, tval, fput, tor, vsh, vbin, vun, tload, tload2, tload3, tstore, tstore2, tstore3, Go.AM.splice, one, tidx, tidx2, tfa, tfa2, tlen2, tbox, talloc, still, still1, flat1, tmake, tbs, tbs2, afill, tsl, tsl2, tsl3, Go.AM.bound, tap, tap2, tap3, tap4, tsrc, tsrc2, Int.reduceEq, Int.reduceNeg, Nat.reduceGT, Nat.reduceLT, Nat.reduceLeDiff, Nat.reduceEqDiff, ↓reduceIte, reduceCtorEq, Int.reduceToNat, Int.reduceLE, Int.reduceLT, Nat.reduceAdd, Nat.reduceMul, f4, f16, f17, hjr, ff_28]) | (refine WK.condT ?_ ?_; focus (simp only [ev_tmp, ev_const, fset_apply, Nat.reduceEqDiff, ↓reduceIte, decide_true, decide_false, f4, f16, f17, hjr, ff_28]; done)) | (refine WK.condF ?_ ?_; focus (simp only [ev_tmp, ev_const, fset_apply, Nat.reduceEqDiff, ↓reduceIte, decide_true, decide_false, f4, f16, f17, hjr, ff_28]; done)))
    (first | refine WK.retNil ⟨Or.inr rfl, _, rfl, ?_, ?_⟩ | refine WK.skipNil ⟨Or.inl rfl, _, rfl, ?_, ?_⟩)
    · exact fun y hy => (kp.keep y (by omega)).trans (kk.keep y hy)
    · simp only [packed, fset_apply, Nat.reduceEqDiff, ↓reduceIte, List.getD_cons_zero, List.getD_cons_succ, f4, ff_28]
      exact ⟨ls, ys, nb, by omega, rfl, ⟨L.hx, L.hy, L.inj, fun v h hn => by have := L.fy v h hn; omega, L.ne⟩, hll, fun v r h => hgood v r (by have := (List.getElem?_eq_some_iff.1 h).1; omega) h⟩
end Go.Proofs.Ytplnndgdklfnfaa
