/- A part of a proof. Its conditions: none. -/
import Derived.Test.YtgnmaekfiifepaaDoorAmMMiRight
import Derived.Test.YtgnmaekfiifepaaDoorAmMMiApart
import Derived.Test.YtgnmaekfiifepaaDoorAmC
set_option linter.all false
namespace Go.Proofs.YtgnmaekfiifepaaDoor
open Go.AM
set_option maxRecDepth 100000
theorem cnt_set {L : List Bool} {i : Nat} (hi : i < L.length) (h : L[i] = false) : L.count true < (L.set i true).count true := by
  rw [List.count_set hi, h]
  simp
def lv (L : List Bool) (s : Nat) : Bool := L.getD s false
theorem lv_at {L : List Bool} {s : Nat} (h : s < L.length) : lv L s = L[s] := by simp [lv, List.getD, h]
theorem lv_set {L : List Bool} {i s : Nat} (hi : i < L.length) : lv (L.set i true) s = if s = i then true else lv L s := by
  by_cases e : s = i
  · subst e; simp [lv, List.getD, hi]
  · rw [if_neg e]; unfold lv; rw [List.getD_eq_getElem?_getD, List.getElem?_set_ne (fun h => e h.symm), ← List.getD_eq_getElem?_getD]
def Cl (N : List (List Int)) (w : Nat) (L : List Bool) : Prop := ∀ s, s < N.length → lv L s = true → ∀ t, t < w → 0 ≤ Mini.at2 N s t → lv L (Mini.at2 N s t).toNat = true
structure Rc (N : List (List Int)) (w : Nat) (L : List Bool) : Prop where
  len : L.length = N.length
  zero : lv L 0 = true
  come : ∀ s, lv L s = true → Mini.Come N w s
structure Ps (N : List (List Int)) (w : Nat) (L0 L : List Bool) (P : Nat → Nat → Prop) : Prop where
  same : Cl N w L0 → L = L0
  or : (L = L0 ∧ ∀ s t, P s t → s < N.length → t < w → lv L s = true → 0 ≤ Mini.at2 N s t → lv L (Mini.at2 N s t).toNat = true) ∨ L0.count true < L.count true
theorem Ps.imp {N w L0 L} {P Q : Nat → Nat → Prop} (h : Ps N w L0 L P) (hq : ∀ s t, Q s t → s < N.length → t < w → lv L s = true → 0 ≤ Mini.at2 N s t → P s t ∨ lv L (Mini.at2 N s t).toNat = true) : Ps N w L0 L Q :=
  ⟨h.same, by
    rcases h.or with ⟨e, h1⟩ | h1
    · exact .inl ⟨e, fun s t hs hl ht hv h0 => by
        rcases hq s t hs hl ht hv h0 with h2 | h2
        · exact h1 s t h2 hl ht hv h0
        · exact h2⟩
    · exact .inr h1⟩
theorem Ps.put {N R w L0 L} {P Q : Nat → Nat → Prop} (ok : Mini.Ok N R w) (hr : Rc N w L) (h : Ps N w L0 L P) {s t : Nat} (hs : s < N.length) (ht : t < w) (hv : lv L s = true) (h0 : 0 ≤ Mini.at2 N s t) (hn : lv L (Mini.at2 N s t).toNat = false) :
    Rc N w (L.set (Mini.at2 N s t).toNat true) ∧ Ps N w L0 (L.set (Mini.at2 N s t).toNat true) Q := by
  have hy := ok.nat hs ht h0
  have hyl : (Mini.at2 N s t).toNat < L.length := by rw [hr.len]; exact hy
  have hc := cnt_set hyl (by rw [← lv_at hyl]; exact hn)
  refine ⟨⟨by simpa using hr.len, by rw [lv_set hyl]; split; rfl; exact hr.zero, fun q hq => ?_⟩, ⟨fun hcl => ?_, .inr ?_⟩⟩
  · rw [lv_set hyl] at hq
    split at hq
    · rename_i e; rw [e]; exact (hr.come s hv).step ht h0
    · exact hr.come q hq
  · exfalso
    have e := h.same hcl
    rw [e] at hv hn
    rw [hcl s hs hv t ht h0] at hn; cases hn
  · rcases h.or with ⟨e, _⟩ | h1
    · rw [← e]; exact hc
    · omega
theorem Ps.done {N w L0 L} (h : Ps N w L0 L fun _ _ => True) {r : Nat} (hi : Cl N w L0 ∨ r + 1 ≤ L0.count true) : Cl N w L ∨ r + 2 ≤ L.count true := by
  rcases h.or with ⟨e, h1⟩ | h1
  · exact .inl fun s hs hv t ht h0 => h1 s t trivial hs ht hv h0
  · rcases hi with h2 | h2
    · left; rw [h.same h2]; exact h2
    · right; omega
theorem Rc.all {N R w L} (ok : Mini.Ok N R w) (h : Rc N w L) (hc : Cl N w L) (s : Nat) : lv L s = true ↔ Mini.Come N w s := by
  refine ⟨h.come s, fun hs => ?_⟩
  have : s < N.length ∧ lv L s = true := by
    induction hs with
    | zero => exact ⟨ok.pos, h.zero⟩
    | @step s t hs ht h0 ih => exact ⟨ok.nat ih.1 ht h0, hc s ih.1 ih.2 t ht h0⟩
  exact this.2
theorem rep_bools (k : Nat) : rep k [Value.bool false] = (List.replicate k false).map .bool := by
  induction k with
  | zero => rfl
  | succ k ih => rw [List.replicate_succ, List.map_cons, ← ih]; rfl
set_option maxHeartbeats 4000000 in
theorem reach_gives {a : Option Addr} {N : List (List Int)} {R : List Int} {w n0 : Nat} {H0 : Heap} (hw0 : WF n0 H0) (hN0 : R2 H0 a N) (ok : Mini.Ok N R w) (hN : N.length ≤ 1000) (hwl : w ≤ 1000) :
    Gives Tryd.prog 17 [.slice a N.length N.length] n0 H0 fun v _ H' => ∃ x L, v = .slice (some ⟨x, 0, none⟩) N.length N.length ∧ H' x = .cells (L.map .bool) 4 true ∧ L.length = N.length ∧ ∀ s, lv L s = true ↔ Mini.Come N w s := by
  refine Gives.of orders ok17 (Nat.le_of_ble_eq_true rfl) ?_
  have hpos := ok.pos
  have hi0 : ((0 : Int) ≤ (N.length : Int)) = True := by simp
  have hib : ((N.length : Int) ≤ (bigN : Int)) = True := by simp only [eq_iff_iff, iff_true]; unfold bigN; omega
  have hle : ((N.length : Int) ≤ (N.length : Int)) = True := by simp
  have hp0 : ((0 : Int) < (N.length : Int)) = True := by simp only [eq_iff_iff, iff_true]; omega
  have hset0 : ((List.replicate N.length false).map Value.bool).set 0 (.bool true) = ((List.replicate N.length false).set 0 true).map .bool := by rw [List.map_set]
  have hl1 : 0 + 1 ≤ ((List.replicate N.length false).map Value.bool).length := by simp; omega
  have hl2 : 0 < ((List.replicate N.length false).map Value.bool).length := by simp; omega
  repeat (first | apply WK.seq | apply WK.block | apply WK.skipSeq | apply WK.skipBlock | apply WK.retSeq | apply WK.retBlock | apply WK.exitSeq | apply WK.exitHere | refine WK.exitOn rfl ?_ | ((first | (refine WK.rgn ?_ ?_; kernel_rfl) | refine AtCall.now ?_); simp (config := { maxSteps := 1000000 }) only [SS, forall_const, wx, tguard, acallee, top, tval, fput, tor, vsh, vbin, tload, tload2, tload3, tstore, tstore2, tstore3, Go.AM.splice, one, tidx, tidx2, tidx3, tlen2, tlen3, tpick, tmake, Int.reduceEq, Int.reduceNeg, Nat.reduceGT, Nat.reduceLT, Nat.reduceLeDiff, Nat.reduceEqDiff, ↓reduceIte, reduceCtorEq, Int.reduceToNat, Int.reduceLE, Int.reduceLT, Nat.reduceAdd, Nat.reduceMul, hi0, hib, hle, hp0, rep_bools, hset_at, hset0, hl1, hl2, Int.toNat_natCast, ff_17]) | (refine WK.condT ?_ ?_; focus (simp only [ev_tmp, ev_const, fset_apply, Nat.reduceEqDiff, ↓reduceIte, decide_true, decide_false, hi0, hib, hle, hp0, rep_bools, hset_at, hset0, hl1, hl2, Int.toNat_natCast, ff_17]; done)) | (refine WK.condF ?_ ?_; focus (simp only [ev_tmp, ev_const, fset_apply, Nat.reduceEqDiff, ↓reduceIte, decide_true, decide_false, hi0, hib, hle, hp0, rep_bools, hset_at, hset0, hl1, hl2, Int.toNat_natCast, ff_17]; done)))
  have hk := Kp.new n0 H0 (.cells (((List.replicate N.length false).set 0 true).map Value.bool) 4 true)
  have hb := hset_at H0 n0 (.cells (((List.replicate N.length false).set 0 true).map Value.bool) 4 true)
  generalize hset H0 n0 (.cells (((List.replicate N.length false).set 0 true).map Value.bool) 4 true) = H1 at *
  have hlen0 : (List.replicate N.length false).length = N.length := by simp
  have rc0 : Rc N w ((List.replicate N.length false).set 0 true) := ⟨by simp, by rw [lv_set (by omega)]; rfl, fun s hs => by
    rw [lv_set (by omega)] at hs
    split at hs
    · rename_i e; rw [e]; exact .zero
    · unfold lv at hs
      rw [List.getD_eq_getElem?_getD, List.getElem?_replicate] at hs
      split at hs <;> cases hs⟩
  have c0 : Cl N w ((List.replicate N.length false).set 0 true) ∨ 0 + 1 ≤ ((List.replicate N.length false).set 0 true).count true := by
    right
    have := cnt_set (L := List.replicate N.length false) (i := 0) (by omega) (by simp)
    omega
  obtain ⟨x, k, cs, ty, own, rfl, hx0, hr0⟩ := hN0.base (by intro e; rw [e] at hpos; exact absurd hpos (by simp))
  have hxl : x < n0 := by
    apply Classical.byContradiction
    intro hc
    rw [hw0 x (by omega)] at hx0; cases hx0
  refine WK.loop (fun kk s => ∃ (r : Nat) (L : List Bool), r ≤ N.length ∧ s.n = n0 + 1 ∧ Kp n0 H0 s.n s.H ∧ s.H n0 = .cells (L.map .bool) 4 true ∧ Rc N w L ∧ (Cl N w L ∨ r + 1 ≤ L.count true) ∧ s.f 0 = .slice (some ⟨x, k, none⟩) N.length N.length ∧ s.f 3 = .slice (some ⟨n0, 0, none⟩) N.length N.length ∧ s.f 4 = .int .i64 (r : Int) ∧ kk = N.length - r) N.length ?_ ?_
  · exact ⟨0, _, Nat.zero_le _, rfl, hk, hb, rc0, c0, rfl, rfl, rfl, rfl⟩
  clear hb hk rc0 c0 H1
  rintro kk ⟨f, n1, H1⟩ ⟨r, L0, hr, rfl, k1, hb, rc0, c0, f0, f3, f4, rfl⟩ ih
  simp only at k1 hb f0 f3 f4 ih
  by_cases hrl : r < N.length
  case neg =>
    have hrl' : ((r : Int) < (N.length : Int)) = False := by simp only [eq_iff_iff, iff_false]; omega
    repeat (first | apply WK.seq | apply WK.block | apply WK.skipSeq | apply WK.skipBlock | apply WK.retSeq | apply WK.retBlock | apply WK.exitSeq | apply WK.exitHere | refine WK.exitOn rfl ?_ | ((first | (refine WK.rgn ?_ ?_; kernel_rfl) | refine AtCall.now ?_); simp (config := { maxSteps := 1000000 }) only [SS, forall_const, wx, tguard, acallee, top, tval, fput, tor, vsh, vbin, tload, tload2, tload3, tstore, tstore2, tstore3, Go.AM.splice, one, tidx, tidx2, tidx3, tlen2, tlen3, tpick, tmake, Int.reduceEq, Int.reduceNeg, Nat.reduceGT, Nat.reduceLT, Nat.reduceLeDiff, Nat.reduceEqDiff, ↓reduceIte, reduceCtorEq, Int.reduceToNat, Int.reduceLE, Int.reduceLT, Nat.reduceAdd, Nat.reduceMul, f0, f3, f4, hrl', ff_17]) | (refine WK.condT ?_ ?_; focus (simp only [ev_tmp, ev_const, fset_apply, Nat.reduceEqDiff, ↓reduceIte, decide_true, decide_false, f0, f3, f4, hrl', ff_17]; done)) | (refine WK.condF ?_ ?_; focus (simp only [ev_tmp, ev_const, fset_apply, Nat.reduceEqDiff, ↓reduceIte, decide_true, decide_false, f0, f3, f4, hrl', ff_17]; done)))
    (first | refine WK.retNil ⟨Or.inr rfl, _, rfl, ?_, ?_⟩ | refine WK.skipNil ⟨Or.inl rfl, _, rfl, ?_, ?_⟩)
    · exact fun z hz => k1.keep z hz
    · simp only [packed, fset_apply, Nat.reduceEqDiff, ↓reduceIte, List.getD_cons_zero, List.getD_cons_succ, ff_17]
      refine ⟨n0, L0, rfl, hb, rc0.len, rc0.all ok ?_⟩
      rcases c0 with h | h
      · exact h
      · have := List.count_le_length (a := true) (l := L0)
        have := rc0.len
        omega
  have hrl' : ((r : Int) < (N.length : Int)) = True := by simp only [eq_iff_iff, iff_true]; omega
  repeat (first | apply WK.seq | apply WK.block | apply WK.skipSeq | apply WK.skipBlock | apply WK.retSeq | apply WK.retBlock | apply WK.exitSeq | apply WK.exitHere | refine WK.exitOn rfl ?_ | ((first | (refine WK.rgn ?_ ?_; kernel_rfl) | refine AtCall.now ?_); simp (config := { maxSteps := 1000000 }) only [SS, forall_const, wx, tguard, acallee, top, tval, fput, tor, vsh, vbin, tload, tload2, tload3, tstore, tstore2, tstore3, Go.AM.splice, one, tidx, tidx2, tidx3, tlen2, tlen3, tpick, tmake, Int.reduceEq, Int.reduceNeg, Nat.reduceGT, Nat.reduceLT, Nat.reduceLeDiff, Nat.reduceEqDiff, ↓reduceIte, reduceCtorEq, Int.reduceToNat, Int.reduceLE, Int.reduceLT, Nat.reduceAdd, Nat.reduceMul, f0, f3, f4, hrl', ff_17]) | (refine WK.condT ?_ ?_; focus (simp only [ev_tmp, ev_const, fset_apply, Nat.reduceEqDiff, ↓reduceIte, decide_true, decide_false, f0, f3, f4, hrl', ff_17]; done)) | (refine WK.condF ?_ ?_; focus (simp only [ev_tmp, ev_const, fset_apply, Nat.reduceEqDiff, ↓reduceIte, decide_true, decide_false, f0, f3, f4, hrl', ff_17]; done)))
  refine WK.loop (fun kk s => ∃ (i : Nat) (L : List Bool), i ≤ N.length ∧ s.n = n0 + 1 ∧ Kp n0 H0 s.n s.H ∧ s.H n0 = .cells (L.map .bool) 4 true ∧ Rc N w L ∧ Ps N w L0 L (fun s _ => s < i) ∧ s.f 0 = .slice (some ⟨x, k, none⟩) N.length N.length ∧ s.f 3 = .slice (some ⟨n0, 0, none⟩) N.length N.length ∧ s.f 4 = .int .i64 (r : Int) ∧ s.f 5 = .int .i64 (i : Int) ∧ kk = N.length - i) N.length ?_ ?_
  · exact ⟨0, L0, Nat.zero_le _, rfl, k1, hb, rc0, ⟨fun _ => rfl, .inl ⟨rfl, fun s t h => absurd h (Nat.not_lt_zero _)⟩⟩, f0, f3, f4, rfl, rfl⟩
  clear hb k1 rc0 f0 f3 f4
  rintro kk ⟨f, n1, H1⟩ ⟨i, L1, hi, rfl, k1, hb, rc1, ps1, f0, f3, f4, f5, rfl⟩ ih2
  simp only at k1 hb f0 f3 f4 f5 ih ih2
  by_cases hil : i < N.length
  case neg =>
    have hil' : ((i : Int) < (N.length : Int)) = False := by simp only [eq_iff_iff, iff_false]; omega
    repeat (first | apply WK.seq | apply WK.block | apply WK.skipSeq | apply WK.skipBlock | apply WK.retSeq | apply WK.retBlock | apply WK.exitSeq | apply WK.exitHere | refine WK.exitOn rfl ?_ | ((first | (refine WK.rgn ?_ ?_; kernel_rfl) | refine AtCall.now ?_); simp (config := { maxSteps := 1000000 }) only [SS, forall_const, wx, tguard, acallee, top, tval, fput, tor, vsh, vbin, tload, tload2, tload3, tstore, tstore2, tstore3, Go.AM.splice, one, tidx, tidx2, tidx3, tlen2, tlen3, tpick, tmake, Int.reduceEq, Int.reduceNeg, Nat.reduceGT, Nat.reduceLT, Nat.reduceLeDiff, Nat.reduceEqDiff, ↓reduceIte, reduceCtorEq, Int.reduceToNat, Int.reduceLE, Int.reduceLT, Nat.reduceAdd, Nat.reduceMul, f0, f3, f4, f5, hil', ff_17]) | (refine WK.condT ?_ ?_; focus (simp only [ev_tmp, ev_const, fset_apply, Nat.reduceEqDiff, ↓reduceIte, decide_true, decide_false, f0, f3, f4, f5, hil', ff_17]; done)) | (refine WK.condF ?_ ?_; focus (simp only [ev_tmp, ev_const, fset_apply, Nat.reduceEqDiff, ↓reduceIte, decide_true, decide_false, f0, f3, f4, f5, hil', ff_17]; done)))
    refine ih (N.length - (r + 1)) (by omega) _ ?_
    refine ⟨r + 1, L1, hrl, rfl, k1, hb, rc1, (ps1.imp fun s t _ hs _ _ _ => .inl (by omega)).done c0, f0, f3, ?_, rfl⟩
    simp only [packed, fset_apply, Nat.reduceEqDiff, ↓reduceIte, List.getD_cons_zero, List.getD_cons_succ, wrap_up hrl (show N.length ≤ maxL by unfold maxL; omega), ff_17]
  have hil' : ((i : Int) < (N.length : Int)) = True := by simp only [eq_iff_iff, iff_true]; omega
  have h0i : (0 : Int) ≤ (i : Int) := Int.natCast_nonneg i
  obtain ⟨p, ci, hp⟩ := hr0 i hil
  have hXw : N[i].length = w := by have := ok.row i hil; rwa [Mini.getD_at [] hil] at this
  have hat : ∀ j (h : j < N[i].length), Mini.at2 N i j = N[i][j] := fun j h => Mini.at2_at hil h
  repeat (first | apply WK.seq | apply WK.block | apply WK.skipSeq | apply WK.skipBlock | apply WK.retSeq | apply WK.retBlock | apply WK.exitSeq | apply WK.exitHere | refine WK.exitOn rfl ?_ | ((first | (refine WK.rgn ?_ ?_; kernel_rfl) | refine AtCall.now ?_); simp (config := { maxSteps := 1000000 }) only [SS, forall_const, wx, tguard, acallee, top, tval, fput, tor, vsh, vbin, tload, tload2, tload3, tstore, tstore2, tstore3, Go.AM.splice, one, tidx, tidx2, tidx3, tlen2, tlen3, tpick, tmake, Int.reduceEq, Int.reduceNeg, Nat.reduceGT, Nat.reduceLT, Nat.reduceLeDiff, Nat.reduceEqDiff, ↓reduceIte, reduceCtorEq, Int.reduceToNat, Int.reduceLE, Int.reduceLT, Nat.reduceAdd, Nat.reduceMul, f0, f3, f4, f5, hil', ff_17]) | (refine WK.condT ?_ ?_; focus (simp only [ev_tmp, ev_const, fset_apply, Nat.reduceEqDiff, ↓reduceIte, decide_true, decide_false, f0, f3, f4, f5, hil', ff_17]; done)) | (refine WK.condF ?_ ?_; focus (simp only [ev_tmp, ev_const, fset_apply, Nat.reduceEqDiff, ↓reduceIte, decide_true, decide_false, f0, f3, f4, f5, hil', ff_17]; done)))
  refine WK.loop (fun kk s => ∃ (j : Nat) (L : List Bool), j ≤ w ∧ s.n = n0 + 1 ∧ Kp n0 H0 s.n s.H ∧ s.H n0 = .cells (L.map .bool) 4 true ∧ Rc N w L ∧ Ps N w L0 L (fun s t => s < i ∨ s = i ∧ t < j) ∧ s.f 0 = .slice (some ⟨x, k, none⟩) N.length N.length ∧ s.f 3 = .slice (some ⟨n0, 0, none⟩) N.length N.length ∧ s.f 4 = .int .i64 (r : Int) ∧ s.f 5 = .int .i64 (i : Int) ∧ s.f 6 = .int .i64 (j : Int) ∧ kk = w - j) w ?_ ?_
  · exact ⟨0, L1, Nat.zero_le _, rfl, k1, hb, rc1, ps1.imp fun s t h _ _ _ _ => .inl (by rcases h with h | h; exact h; exact absurd h.2 (Nat.not_lt_zero _)), f0, f3, f4, f5, rfl, rfl⟩
  clear hb k1 rc1 ps1 f0 f3 f4 f5
  rintro kk ⟨f, n1, H1⟩ ⟨j, L, hj, rfl, k1, hb, rc, ps, f0, f3, f4, f5, f6, rfl⟩ ih3
  simp only at k1 hb f0 f3 f4 f5 f6 ih ih2 ih3
  have hx1 := (k1.keep x hxl).trans hx0
  rw [hXw] at ci
  by_cases hjl : j < w
  case neg =>
    have hjl' : ((j : Int) < (w : Int)) = False := by simp only [eq_iff_iff, iff_false]; omega
    repeat (first | apply WK.seq | apply WK.block | apply WK.skipSeq | apply WK.skipBlock | apply WK.retSeq | apply WK.retBlock | apply WK.exitSeq | apply WK.exitHere | refine WK.exitOn rfl ?_ | ((first | (refine WK.rgn ?_ ?_; kernel_rfl) | refine AtCall.now ?_); simp (config := { maxSteps := 1000000 }) only [SS, forall_const, wx, tguard, acallee, top, tval, fput, tor, vsh, vbin, tload, tload2, tload3, tstore, tstore2, tstore3, Go.AM.splice, one, tidx, tidx2, tidx3, tlen2, tlen3, tpick, tmake, Int.reduceEq, Int.reduceNeg, Nat.reduceGT, Nat.reduceLT, Nat.reduceLeDiff, Nat.reduceEqDiff, ↓reduceIte, reduceCtorEq, Int.reduceToNat, Int.reduceLE, Int.reduceLT, Nat.reduceAdd, Nat.reduceMul, f0, f3, f4, f5, f6, hil', hil, h0i, hx1, ci, hjl', Int.toNat_natCast, ff_17]) | (refine WK.condT ?_ ?_; focus (simp only [ev_tmp, ev_const, fset_apply, Nat.reduceEqDiff, ↓reduceIte, decide_true, decide_false, f0, f3, f4, f5, f6, hil', hil, h0i, hx1, ci, hjl', Int.toNat_natCast, ff_17]; done)) | (refine WK.condF ?_ ?_; focus (simp only [ev_tmp, ev_const, fset_apply, Nat.reduceEqDiff, ↓reduceIte, decide_true, decide_false, f0, f3, f4, f5, f6, hil', hil, h0i, hx1, ci, hjl', Int.toNat_natCast, ff_17]; done)))
    refine ih2 (N.length - (i + 1)) (by omega) _ ?_
    refine ⟨i + 1, L, hil, rfl, k1, hb, rc, ps.imp fun s t h _ ht _ _ => .inl (by omega), f0, f3, f4, ?_, rfl⟩
    simp only [packed, fset_apply, Nat.reduceEqDiff, ↓reduceIte, List.getD_cons_zero, List.getD_cons_succ, wrap_up hil (show N.length ≤ maxL by unfold maxL; omega), ff_17]
  have hjl' : ((j : Int) < (w : Int)) = True := by simp only [eq_iff_iff, iff_true]; omega
  have h0j : (0 : Int) ≤ (j : Int) := Int.natCast_nonneg j
  have hp1 := hp.mono hw0 k1
  have hj1 : j < N[i].length := by omega
  have a1 := hat j hj1
  have b2 := ok.hi i hil j hjl
  rw [a1] at b2
  obtain ⟨z, m, es, tz, oz, rfl, hz, ej⟩ := hp1.at hj1
  generalize N[i][j] = Y at *
  have hLi : (L.map Value.bool)[i]? = some (.bool (lv L i)) := by
    rw [List.getElem?_map, List.getElem?_eq_getElem (by rw [rc.len]; exact hil), lv_at (by rw [rc.len]; exact hil)]; rfl
  have next : ∀ (L2 : List Bool) (H2 : Heap), Kp n0 H0 (n0 + 1) H2 → H2 n0 = .cells (L2.map .bool) 4 true → Rc N w L2 → Ps N w L0 L2 (fun s t => s < i ∨ s = i ∧ t < j + 1) → ∀ f2 : Fr, f2 0 = .slice (some ⟨x, k, none⟩) N.length N.length → f2 3 = .slice (some ⟨n0, 0, none⟩) N.length N.length → f2 4 = .int .i64 (r : Int) → f2 5 = .int .i64 (i : Int) → f2 6 = .int .i64 ((j + 1 : Nat) : Int) → WK _ _ _ ⟨f2, n0 + 1, H2⟩ _ := fun L2 H2 h1 h2 h3 h4 f2 g0 g3 g4 g5 g6 => ih3 (w - (j + 1)) (by omega) ⟨f2, n0 + 1, H2⟩ ⟨j + 1, L2, hjl, rfl, h1, h2, h3, h4, g0, g3, g4, g5, g6, rfl⟩
  have hwm : w ≤ maxL := by unfold maxL; omega
  by_cases hv : lv L i = true
  · by_cases hy : 0 ≤ Y
    · have hyl : Y.toNat < N.length := by omega
      have hYn : (Y < (N.length : Int)) = True := by simp only [eq_iff_iff, iff_true]; omega
      rw [hv] at hLi
      have hrl1 : Y.toNat + 1 ≤ (L.map Value.bool).length := by rw [List.length_map, rc.len]; omega
      have hst : (L.map Value.bool).set Y.toNat (.bool true) = (L.set Y.toNat true).map .bool := by rw [List.map_set]
      repeat (first | apply WK.seq | apply WK.block | apply WK.skipSeq | apply WK.skipBlock | apply WK.retSeq | apply WK.retBlock | apply WK.exitSeq | apply WK.exitHere | refine WK.exitOn rfl ?_ | ((first | (refine WK.rgn ?_ ?_; kernel_rfl) | refine AtCall.now ?_); simp (config := { maxSteps := 1000000 }) only [SS, forall_const, wx, tguard, acallee, top, tval, fput, tor, vsh, vbin, tload, tload2, tload3, tstore, tstore2, tstore3, Go.AM.splice, one, tidx, tidx2, tidx3, tlen2, tlen3, tpick, tmake, Int.reduceEq, Int.reduceNeg, Nat.reduceGT, Nat.reduceLT, Nat.reduceLeDiff, Nat.reduceEqDiff, ↓reduceIte, reduceCtorEq, Int.reduceToNat, Int.reduceLE, Int.reduceLT, Nat.reduceAdd, Nat.reduceMul, f0, f3, f4, f5, f6, hil', hil, h0i, hx1, ci, hjl', hjl, h0j, hb, hLi, hz, ej, hy, hYn, hyl, hrl1, hst, Int.toNat_natCast, Nat.zero_add, ff_17]) | (refine WK.condT ?_ ?_; focus (simp only [ev_tmp, ev_const, fset_apply, Nat.reduceEqDiff, ↓reduceIte, decide_true, decide_false, f0, f3, f4, f5, f6, hil', hil, h0i, hx1, ci, hjl', hjl, h0j, hb, hLi, hz, ej, hy, hYn, hyl, hrl1, hst, Int.toNat_natCast, Nat.zero_add, ff_17]; done)) | (refine WK.condF ?_ ?_; focus (simp only [ev_tmp, ev_const, fset_apply, Nat.reduceEqDiff, ↓reduceIte, decide_true, decide_false, f0, f3, f4, f5, f6, hil', hil, h0i, hx1, ci, hjl', hjl, h0j, hb, hLi, hz, ej, hy, hYn, hyl, hrl1, hst, Int.toNat_natCast, Nat.zero_add, ff_17]; done)))
      cases hn : lv L Y.toNat with
      | true =>
        have hsame : L.set Y.toNat true = L := by
          apply List.ext_getElem (by simp)
          intro q h1 h2
          rw [List.getElem_set]
          split
          · rename_i e; subst e; rw [← lv_at h2]; exact hn.symm
          · rfl
        rw [hsame]
        refine next L _ (k1.set _ (Nat.le_refl _) (by omega)) (hset_at _ _ _) rc (ps.imp fun s t h hs ht hvs h0 => ?_) _ f0 f3 f4 f5 ?_
        · rcases h with h | ⟨h, h'⟩
          · exact .inl (.inl h)
          · by_cases e : t = j
            · subst e; subst h; right; rw [a1]; exact hn
            · exact .inl (.inr ⟨h, by omega⟩)
        · simp only [packed, fset_apply, Nat.reduceEqDiff, ↓reduceIte, List.getD_cons_zero, List.getD_cons_succ, wrap_up hjl hwm, ff_17]
      | false =>
        obtain ⟨g1, g2⟩ := ps.put (Q := fun s t => s < i ∨ s = i ∧ t < j + 1) ok rc hil hjl hv (by rw [a1]; exact hy) (by rw [a1]; exact hn)
        rw [a1] at g1 g2
        refine next _ _ (k1.set _ (Nat.le_refl _) (by omega)) (hset_at _ _ _) g1 g2 _ f0 f3 f4 f5 ?_
        simp only [packed, fset_apply, Nat.reduceEqDiff, ↓reduceIte, List.getD_cons_zero, List.getD_cons_succ, wrap_up hjl hwm, ff_17]
    · rw [hv] at hLi
      repeat (first | apply WK.seq | apply WK.block | apply WK.skipSeq | apply WK.skipBlock | apply WK.retSeq | apply WK.retBlock | apply WK.exitSeq | apply WK.exitHere | refine WK.exitOn rfl ?_ | ((first | (refine WK.rgn ?_ ?_; kernel_rfl) | refine AtCall.now ?_); simp (config := { maxSteps := 1000000 }) only [SS, forall_const, wx, tguard, acallee, top, tval, fput, tor, vsh, vbin, tload, tload2, tload3, tstore, tstore2, tstore3, Go.AM.splice, one, tidx, tidx2, tidx3, tlen2, tlen3, tpick, tmake, Int.reduceEq, Int.reduceNeg, Nat.reduceGT, Nat.reduceLT, Nat.reduceLeDiff, Nat.reduceEqDiff, ↓reduceIte, reduceCtorEq, Int.reduceToNat, Int.reduceLE, Int.reduceLT, Nat.reduceAdd, Nat.reduceMul, f0, f3, f4, f5, f6, hil', hil, h0i, hx1, ci, hjl', hjl, h0j, hb, hLi, hz, ej, hy, Int.toNat_natCast, Nat.zero_add, ff_17]) | (refine WK.condT ?_ ?_; focus (simp only [ev_tmp, ev_const, fset_apply, Nat.reduceEqDiff, ↓reduceIte, decide_true, decide_false, f0, f3, f4, f5, f6, hil', hil, h0i, hx1, ci, hjl', hjl, h0j, hb, hLi, hz, ej, hy, Int.toNat_natCast, Nat.zero_add, ff_17]; done)) | (refine WK.condF ?_ ?_; focus (simp only [ev_tmp, ev_const, fset_apply, Nat.reduceEqDiff, ↓reduceIte, decide_true, decide_false, f0, f3, f4, f5, f6, hil', hil, h0i, hx1, ci, hjl', hjl, h0j, hb, hLi, hz, ej, hy, Int.toNat_natCast, Nat.zero_add, ff_17]; done)))
      refine next L _ k1 hb rc (ps.imp fun s t h hs ht hvs h0 => ?_) _ f0 f3 f4 f5 ?_
      · rcases h with h | ⟨h, h'⟩
        · exact .inl (.inl h)
        · by_cases e : t = j
          · subst e; subst h; rw [a1] at h0; exact absurd h0 hy
          · exact .inl (.inr ⟨h, by omega⟩)
      · simp only [packed, fset_apply, Nat.reduceEqDiff, ↓reduceIte, List.getD_cons_zero, List.getD_cons_succ, wrap_up hjl hwm, ff_17]
  · have hv' : lv L i = false := by simpa using hv
    rw [hv'] at hLi
    repeat (first | apply WK.seq | apply WK.block | apply WK.skipSeq | apply WK.skipBlock | apply WK.retSeq | apply WK.retBlock | apply WK.exitSeq | apply WK.exitHere | refine WK.exitOn rfl ?_ | ((first | (refine WK.rgn ?_ ?_; kernel_rfl) | refine AtCall.now ?_); simp (config := { maxSteps := 1000000 }) only [SS, forall_const, wx, tguard, acallee, top, tval, fput, tor, vsh, vbin, tload, tload2, tload3, tstore, tstore2, tstore3, Go.AM.splice, one, tidx, tidx2, tidx3, tlen2, tlen3, tpick, tmake, Int.reduceEq, Int.reduceNeg, Nat.reduceGT, Nat.reduceLT, Nat.reduceLeDiff, Nat.reduceEqDiff, ↓reduceIte, reduceCtorEq, Int.reduceToNat, Int.reduceLE, Int.reduceLT, Nat.reduceAdd, Nat.reduceMul, f0, f3, f4, f5, f6, hil', hil, h0i, hx1, ci, hjl', hjl, h0j, hb, hLi, Int.toNat_natCast, Nat.zero_add, ff_17]) | (refine WK.condT ?_ ?_; focus (simp only [ev_tmp, ev_const, fset_apply, Nat.reduceEqDiff, ↓reduceIte, decide_true, decide_false, f0, f3, f4, f5, f6, hil', hil, h0i, hx1, ci, hjl', hjl, h0j, hb, hLi, Int.toNat_natCast, Nat.zero_add, ff_17]; done)) | (refine WK.condF ?_ ?_; focus (simp only [ev_tmp, ev_const, fset_apply, Nat.reduceEqDiff, ↓reduceIte, decide_true, decide_false, f0, f3, f4, f5, f6, hil', hil, h0i, hx1, ci, hjl', hjl, h0j, hb, hLi, Int.toNat_natCast, Nat.zero_add, ff_17]; done)))
    refine next L _ k1 hb rc (ps.imp fun s t h hs ht hvs h0 => ?_) _ f0 f3 f4 f5 ?_
    · rcases h with h | ⟨h, h'⟩
      · exact .inl (.inl h)
      · by_cases e : t = j
        · subst e; subst h; rw [hv'] at hvs; cases hvs
        · exact .inl (.inr ⟨h, by omega⟩)
    · simp only [packed, fset_apply, Nat.reduceEqDiff, ↓reduceIte, List.getD_cons_zero, List.getD_cons_succ, wrap_up hjl hwm, ff_17]
end Go.Proofs.YtgnmaekfiifepaaDoor

namespace Go.Proofs.YtgnmaekfiifepaaDoor
open Go.AM
set_option maxRecDepth 100000
theorem come_lt {N : List (List Int)} {R : List Int} {w : Nat} (ok : Mini.Ok N R w) {s : Nat} (h : Mini.Come N w s) : s < N.length := by
  induction h with
  | zero => exact ok.pos
  | step _ ht h0 ih => exact ok.nat ih ht h0
set_option maxHeartbeats 8000000 in
theorem count_gives {a b : Option Addr} {N : List (List Int)} {R : List Int} {w n0 : Nat} {H0 : Heap} (hw0 : WF n0 H0) (hN0 : R2 H0 a N) (hR0 : RA (Value.int .i64) H0 b R) (ok : Mini.Ok N R w) (hN : N.length ≤ 1000) (hwl : w ≤ 1000) :
    Gives Tryd.prog 11 [.slice a N.length N.length, .slice b R.length R.length] n0 H0 fun v _ _ => ∃ (L : Nat → Bool) (V : Nat → Nat → Bool), v = .int .i64 ((Mini.frs L V N.length).length : Nat) ∧ (∀ s, L s = true ↔ Mini.Come N w s) ∧
      ∀ s u, s < N.length → u < N.length → (V s u = true ↔ ¬ Mini.Sim N R N R w s u) := by
  refine Gives.of orders ok11 (Nat.le_of_ble_eq_true rfl) ?_
  repeat (first | apply WK.seq | apply WK.block | apply WK.skipSeq | apply WK.skipBlock | apply WK.retSeq | apply WK.retBlock | apply WK.exitSeq | apply WK.exitHere | refine WK.exitOn rfl ?_ | ((first | (refine WK.rgn ?_ ?_; kernel_rfl) | refine AtCall.now ?_); simp (config := { maxSteps := 1000000 }) only [SS, forall_const, wx, tguard, acallee, top, tval, fput, tor, vsh, vbin, vun, tload, tload2, tload3, tidx, tidx2, tidx3, tlen2, tlen3, tpick, Int.reduceEq, Int.reduceNeg, Nat.reduceGT, Nat.reduceLT, Nat.reduceLeDiff, Nat.reduceEqDiff, ↓reduceIte, reduceCtorEq, Int.reduceToNat, Int.reduceLE, Int.reduceLT, Nat.reduceAdd, Nat.reduceMul, ff_11]) | (refine WK.condT ?_ ?_; focus (simp only [ev_tmp, ev_const, fset_apply, Nat.reduceEqDiff, ↓reduceIte, decide_true, decide_false, ff_11]; done)) | (refine WK.condF ?_ ?_; focus (simp only [ev_tmp, ev_const, fset_apply, Nat.reduceEqDiff, ↓reduceIte, decide_true, decide_false, ff_11]; done)))
  refine AtCall.by (apart_gives hw0 hN0 hR0 hN0 hR0 ok ok hN hN hwl) ?_
  rintro v n1 H1 k1 ⟨xo, ys, O, rfl, hll, hOl, hOr, hO⟩
  have hw1 := k1.wf hw0
  repeat (first | apply WK.seq | apply WK.block | apply WK.skipSeq | apply WK.skipBlock | apply WK.retSeq | apply WK.retBlock | apply WK.exitSeq | apply WK.exitHere | refine WK.exitOn rfl ?_ | ((first | (refine WK.rgn ?_ ?_; kernel_rfl) | refine AtCall.now ?_); simp (config := { maxSteps := 1000000 }) only [SS, forall_const, wx, tguard, acallee, top, tval, fput, tor, vsh, vbin, vun, tload, tload2, tload3, tidx, tidx2, tidx3, tlen2, tlen3, tpick, Int.reduceEq, Int.reduceNeg, Nat.reduceGT, Nat.reduceLT, Nat.reduceLeDiff, Nat.reduceEqDiff, ↓reduceIte, reduceCtorEq, Int.reduceToNat, Int.reduceLE, Int.reduceLT, Nat.reduceAdd, Nat.reduceMul, ff_11]) | (refine WK.condT ?_ ?_; focus (simp only [ev_tmp, ev_const, fset_apply, Nat.reduceEqDiff, ↓reduceIte, decide_true, decide_false, ff_11]; done)) | (refine WK.condF ?_ ?_; focus (simp only [ev_tmp, ev_const, fset_apply, Nat.reduceEqDiff, ↓reduceIte, decide_true, decide_false, ff_11]; done)))
  refine AtCall.by (reach_gives hw1 (hN0.mono hw0 k1) ok hN hwl) ?_
  rintro v n2 H2 k2 ⟨x, L, rfl, hx, hLl, hL⟩
  have hw2 := k2.wf hw1
  have hll2 := hll.kp hw1 k2
  repeat (first | apply WK.seq | apply WK.block | apply WK.skipSeq | apply WK.skipBlock | apply WK.retSeq | apply WK.retBlock | apply WK.exitSeq | apply WK.exitHere | refine WK.exitOn rfl ?_ | ((first | (refine WK.rgn ?_ ?_; kernel_rfl) | refine AtCall.now ?_); simp (config := { maxSteps := 1000000 }) only [SS, forall_const, wx, tguard, acallee, top, tval, fput, tor, vsh, vbin, vun, tload, tload2, tload3, tidx, tidx2, tidx3, tlen2, tlen3, tpick, Int.reduceEq, Int.reduceNeg, Nat.reduceGT, Nat.reduceLT, Nat.reduceLeDiff, Nat.reduceEqDiff, ↓reduceIte, reduceCtorEq, Int.reduceToNat, Int.reduceLE, Int.reduceLT, Nat.reduceAdd, Nat.reduceMul, ff_11]) | (refine WK.condT ?_ ?_; focus (simp only [ev_tmp, ev_const, fset_apply, Nat.reduceEqDiff, ↓reduceIte, decide_true, decide_false, ff_11]; done)) | (refine WK.condF ?_ ?_; focus (simp only [ev_tmp, ev_const, fset_apply, Nat.reduceEqDiff, ↓reduceIte, decide_true, decide_false, ff_11]; done)))
  refine WK.loop (fun kk s => ∃ (i : Nat), i ≤ N.length ∧ s.n = n2 ∧ s.H = H2 ∧ s.f 0 = .slice a N.length N.length ∧ s.f 5 = .slice (some ⟨xo, 0, none⟩) N.length N.length ∧ s.f 6 = .slice (some ⟨x, 0, none⟩) N.length N.length ∧ s.f 7 = .int .i64 ((Mini.frs (lv L) (Mini.mv O) i).length : Nat) ∧ s.f 8 = .int .i64 (i : Int) ∧ kk = N.length - i) N.length ?_ ?_
  · exact ⟨0, Nat.zero_le _, rfl, rfl, rfl, rfl, rfl, rfl, rfl, rfl⟩
  rintro kk ⟨f, n3, H3⟩ ⟨i, hi, hn, hH, f0, f5, f6, f7, f8, rfl⟩ ih
  simp only at hn hH f0 f5 f6 f7 f8 ih
  subst hn hH
  by_cases hil : i < N.length
  case neg =>
    have hil' : ((i : Int) < (N.length : Int)) = False := by simp only [eq_iff_iff, iff_false]; omega
    have e : i = N.length := by omega
    repeat (first | apply WK.seq | apply WK.block | apply WK.skipSeq | apply WK.skipBlock | apply WK.retSeq | apply WK.retBlock | apply WK.exitSeq | apply WK.exitHere | refine WK.exitOn rfl ?_ | ((first | (refine WK.rgn ?_ ?_; kernel_rfl) | refine AtCall.now ?_); simp (config := { maxSteps := 1000000 }) only [SS, forall_const, wx, tguard, acallee, top, tval, fput, tor, vsh, vbin, vun, tload, tload2, tload3, tidx, tidx2, tidx3, tlen2, tlen3, tpick, Int.reduceEq, Int.reduceNeg, Nat.reduceGT, Nat.reduceLT, Nat.reduceLeDiff, Nat.reduceEqDiff, ↓reduceIte, reduceCtorEq, Int.reduceToNat, Int.reduceLE, Int.reduceLT, Nat.reduceAdd, Nat.reduceMul, f0, f7, f8, hil', ff_11]) | (refine WK.condT ?_ ?_; focus (simp only [ev_tmp, ev_const, fset_apply, Nat.reduceEqDiff, ↓reduceIte, decide_true, decide_false, f0, f7, f8, hil', ff_11]; done)) | (refine WK.condF ?_ ?_; focus (simp only [ev_tmp, ev_const, fset_apply, Nat.reduceEqDiff, ↓reduceIte, decide_true, decide_false, f0, f7, f8, hil', ff_11]; done)))
    (first | refine WK.retNil ⟨Or.inr rfl, _, rfl, ?_, ?_⟩ | refine WK.skipNil ⟨Or.inl rfl, _, rfl, ?_, ?_⟩)
    · exact fun z hz => (k1.trans k2).keep z hz
    · simp only [packed, fset_apply, Nat.reduceEqDiff, ↓reduceIte, List.getD_cons_zero, List.getD_cons_succ, ff_11]
      exact ⟨lv L, Mini.mv O, by rw [e], hL, hO⟩
  have hil' : ((i : Int) < (N.length : Int)) = True := by simp only [eq_iff_iff, iff_true]; omega
  have h0i : (0 : Int) ≤ (i : Int) := Int.natCast_nonneg i
  have lvc : ∀ q, q < N.length → (L.map Value.bool)[q]? = some (.bool (lv L q)) := fun q hq => by
    rw [List.getElem?_map, List.getElem?_eq_getElem (by rw [hLl]; exact hq), lv_at (by rw [hLl]; exact hq)]; rfl
  have hiO : i < O.length := by omega
  have hrow := hOr i hil
  have hgO : O.getD i [] = O[i] := Mini.getD_at [] hiO
  rw [hgO] at hrow
  have hrne : O[i] ≠ [] := fun e => by rw [e] at hrow; simp at hrow; omega
  have hxo1 := hll2.hx
  have hOi := hll2.at hiO
  rw [sl_pos (by rw [hrow]; omega), hrow] at hOi
  have hyi := hll2.hy i hiO hrne
  rw [bools_at] at hyi
  have mvc : ∀ q, q < N.length → (O[i].map Value.bool)[q]? = some (.bool (Mini.mv O i q)) := fun q hq => by
    have hmv : Mini.mv O i q = O[i][q] := by unfold Mini.mv; rw [hgO]; exact Mini.getD_at _ (by omega)
    rw [List.getElem?_map, List.getElem?_eq_getElem (by omega), hmv]; rfl
  have hci := lvc i hil
  repeat (first | apply WK.seq | apply WK.block | apply WK.skipSeq | apply WK.skipBlock | apply WK.retSeq | apply WK.retBlock | apply WK.exitSeq | apply WK.exitHere | refine WK.exitOn rfl ?_ | ((first | (refine WK.rgn ?_ ?_; kernel_rfl) | refine AtCall.now ?_); simp (config := { maxSteps := 1000000 }) only [SS, forall_const, wx, tguard, acallee, top, tval, fput, tor, vsh, vbin, vun, tload, tload2, tload3, tidx, tidx2, tidx3, tlen2, tlen3, tpick, Int.reduceEq, Int.reduceNeg, Nat.reduceGT, Nat.reduceLT, Nat.reduceLeDiff, Nat.reduceEqDiff, ↓reduceIte, reduceCtorEq, Int.reduceToNat, Int.reduceLE, Int.reduceLT, Nat.reduceAdd, Nat.reduceMul, f0, f6, f8, hil', hil, h0i, hx, hci, Int.toNat_natCast, Nat.zero_add, ff_11]) | (refine WK.condT ?_ ?_; focus (simp only [ev_tmp, ev_const, fset_apply, Nat.reduceEqDiff, ↓reduceIte, decide_true, decide_false, f0, f6, f8, hil', hil, h0i, hx, hci, Int.toNat_natCast, Nat.zero_add, ff_11]; done)) | (refine WK.condF ?_ ?_; focus (simp only [ev_tmp, ev_const, fset_apply, Nat.reduceEqDiff, ↓reduceIte, decide_true, decide_false, f0, f6, f8, hil', hil, h0i, hx, hci, Int.toNat_natCast, Nat.zero_add, ff_11]; done)))
  refine WK.loop (fun kk s => ∃ (j : Nat), j ≤ i ∧ s.n = n3 ∧ s.H = H3 ∧ s.f 0 = .slice a N.length N.length ∧ s.f 5 = .slice (some ⟨xo, 0, none⟩) N.length N.length ∧ s.f 6 = .slice (some ⟨x, 0, none⟩) N.length N.length ∧ s.f 7 = .int .i64 ((Mini.frs (lv L) (Mini.mv O) i).length : Nat) ∧ s.f 8 = .int .i64 (i : Int) ∧ s.f 9 = .bool (lv L i && (List.range j).all fun q => !(lv L q && !Mini.mv O i q)) ∧ s.f 10 = .int .i64 (j : Int) ∧ kk = i - j) i ?_ ?_
  · refine ⟨0, Nat.zero_le _, rfl, rfl, f0, f5, f6, f7, f8, ?_, rfl, rfl⟩
    simp only [packed, fset_apply, Nat.reduceEqDiff, ↓reduceIte, List.getD_cons_zero, List.getD_cons_succ, ff_11]
    simp
  clear f0 f5 f6 f7 f8
  rintro kk ⟨f, n4, H4⟩ ⟨j, hj, hn, hH, f0, f5, f6, f7, f8, f9, f10, rfl⟩ ih2
  simp only at hn hH f0 f5 f6 f7 f8 f9 f10 ih ih2
  subst hn hH
  by_cases hjl : j < i
  case neg =>
    have hjl' : ((j : Int) < (i : Int)) = False := by simp only [eq_iff_iff, iff_false]; omega
    have e : j = i := by omega
    subst e
    have hfl : (Mini.frs (lv L) (Mini.mv O) j).length ≤ 1000 := by
      have := List.length_filter_le (Mini.fr (lv L) (Mini.mv O)) (List.range j)
      rw [List.length_range] at this
      show ((List.range j).filter _).length ≤ 1000
      omega
    have hsn := Mini.frs_snoc (lv L) (Mini.mv O) j
    have hf9 : (lv L j && (List.range j).all fun q => !(lv L q && !Mini.mv O j q)) = Mini.fr (lv L) (Mini.mv O) j := rfl
    rw [hf9] at f9
    cases hfr : Mini.fr (lv L) (Mini.mv O) j with
    | true =>
      rw [hfr] at f9
      rw [hfr, if_pos rfl] at hsn
      repeat (first | apply WK.seq | apply WK.block | apply WK.skipSeq | apply WK.skipBlock | apply WK.retSeq | apply WK.retBlock | apply WK.exitSeq | apply WK.exitHere | refine WK.exitOn rfl ?_ | ((first | (refine WK.rgn ?_ ?_; kernel_rfl) | refine AtCall.now ?_); simp (config := { maxSteps := 1000000 }) only [SS, forall_const, wx, tguard, acallee, top, tval, fput, tor, vsh, vbin, vun, tload, tload2, tload3, tidx, tidx2, tidx3, tlen2, tlen3, tpick, Int.reduceEq, Int.reduceNeg, Nat.reduceGT, Nat.reduceLT, Nat.reduceLeDiff, Nat.reduceEqDiff, ↓reduceIte, reduceCtorEq, Int.reduceToNat, Int.reduceLE, Int.reduceLT, Nat.reduceAdd, Nat.reduceMul, f7, f8, f9, f10, hjl', ff_11]) | (refine WK.condT ?_ ?_; focus (simp only [ev_tmp, ev_const, fset_apply, Nat.reduceEqDiff, ↓reduceIte, decide_true, decide_false, f7, f8, f9, f10, hjl', ff_11]; done)) | (refine WK.condF ?_ ?_; focus (simp only [ev_tmp, ev_const, fset_apply, Nat.reduceEqDiff, ↓reduceIte, decide_true, decide_false, f7, f8, f9, f10, hjl', ff_11]; done)))
      refine ih (N.length - (j + 1)) (by omega) _ ?_
      refine ⟨j + 1, hil, rfl, rfl, f0, f5, f6, ?_, ?_, rfl⟩
      · simp only [packed, fset_apply, Nat.reduceEqDiff, ↓reduceIte, List.getD_cons_zero, List.getD_cons_succ, hsn, List.length_append, List.length_singleton, wrap_up (Nat.le_refl (Mini.frs (lv L) (Mini.mv O) j).length.succ) (show (Mini.frs (lv L) (Mini.mv O) j).length.succ ≤ maxL by unfold maxL; omega), ff_11]
      · simp only [packed, fset_apply, Nat.reduceEqDiff, ↓reduceIte, List.getD_cons_zero, List.getD_cons_succ, wrap_up hil (show N.length ≤ maxL by unfold maxL; omega), ff_11]
    | false =>
      rw [hfr] at f9
      rw [hfr, if_neg (by simp), List.append_nil] at hsn
      repeat (first | apply WK.seq | apply WK.block | apply WK.skipSeq | apply WK.skipBlock | apply WK.retSeq | apply WK.retBlock | apply WK.exitSeq | apply WK.exitHere | refine WK.exitOn rfl ?_ | ((first | (refine WK.rgn ?_ ?_; kernel_rfl) | refine AtCall.now ?_); simp (config := { maxSteps := 1000000 }) only [SS, forall_const, wx, tguard, acallee, top, tval, fput, tor, vsh, vbin, vun, tload, tload2, tload3, tidx, tidx2, tidx3, tlen2, tlen3, tpick, Int.reduceEq, Int.reduceNeg, Nat.reduceGT, Nat.reduceLT, Nat.reduceLeDiff, Nat.reduceEqDiff, ↓reduceIte, reduceCtorEq, Int.reduceToNat, Int.reduceLE, Int.reduceLT, Nat.reduceAdd, Nat.reduceMul, f7, f8, f9, f10, hjl', ff_11]) | (refine WK.condT ?_ ?_; focus (simp only [ev_tmp, ev_const, fset_apply, Nat.reduceEqDiff, ↓reduceIte, decide_true, decide_false, f7, f8, f9, f10, hjl', ff_11]; done)) | (refine WK.condF ?_ ?_; focus (simp only [ev_tmp, ev_const, fset_apply, Nat.reduceEqDiff, ↓reduceIte, decide_true, decide_false, f7, f8, f9, f10, hjl', ff_11]; done)))
      refine ih (N.length - (j + 1)) (by omega) _ ?_
      refine ⟨j + 1, hil, rfl, rfl, f0, f5, f6, by rw [hsn]; exact f7, ?_, rfl⟩
      simp only [packed, fset_apply, Nat.reduceEqDiff, ↓reduceIte, List.getD_cons_zero, List.getD_cons_succ, wrap_up hil (show N.length ≤ maxL by unfold maxL; omega), ff_11]
  have hjl' : ((j : Int) < (i : Int)) = True := by simp only [eq_iff_iff, iff_true]; omega
  have hjN : j < N.length := by omega
  have hjN' : ((j : Int) < (N.length : Int)) = True := by simp only [eq_iff_iff, iff_true]; omega
  have h0j : (0 : Int) ≤ (j : Int) := Int.natCast_nonneg j
  have hcj := lvc j hjN
  have hmj := mvc j hjN
  have hall : (List.range (j + 1)).all (fun q => !(lv L q && !Mini.mv O i q)) = ((List.range j).all (fun q => !(lv L q && !Mini.mv O i q)) && !(lv L j && !Mini.mv O i j)) := by
    rw [List.range_succ, List.all_append]; simp
  have nextS : ∀ f2 : Fr, f2 0 = .slice a N.length N.length → f2 5 = .slice (some ⟨xo, 0, none⟩) N.length N.length → f2 6 = .slice (some ⟨x, 0, none⟩) N.length N.length → f2 7 = .int .i64 ((Mini.frs (lv L) (Mini.mv O) i).length : Nat) → f2 8 = .int .i64 (i : Int) → f2 9 = .bool (lv L i && (List.range (j + 1)).all fun q => !(lv L q && !Mini.mv O i q)) → f2 10 = .int .i64 ((j + 1 : Nat) : Int) → WK _ _ _ ⟨f2, n4, H4⟩ _ := fun f2 g0 g5 g6 g7 g8 g9 g10 => ih2 (i - (j + 1)) (by omega) ⟨f2, n4, H4⟩ ⟨j + 1, hjl, rfl, rfl, g0, g5, g6, g7, g8, g9, g10, rfl⟩
  cases hl : lv L j with
  | false =>
    rw [hl] at hcj hall
    repeat (first | apply WK.seq | apply WK.block | apply WK.skipSeq | apply WK.skipBlock | apply WK.retSeq | apply WK.retBlock | apply WK.exitSeq | apply WK.exitHere | refine WK.exitOn rfl ?_ | ((first | (refine WK.rgn ?_ ?_; kernel_rfl) | refine AtCall.now ?_); simp (config := { maxSteps := 1000000 }) only [SS, forall_const, wx, tguard, acallee, top, tval, fput, tor, vsh, vbin, vun, tload, tload2, tload3, tidx, tidx2, tidx3, tlen2, tlen3, tpick, Int.reduceEq, Int.reduceNeg, Nat.reduceGT, Nat.reduceLT, Nat.reduceLeDiff, Nat.reduceEqDiff, ↓reduceIte, reduceCtorEq, Int.reduceToNat, Int.reduceLE, Int.reduceLT, Nat.reduceAdd, Nat.reduceMul, f6, f8, f10, hjl', hjN', hjN, h0j, hx, hcj, Int.toNat_natCast, Nat.zero_add, ff_11]) | (refine WK.condT ?_ ?_; focus (simp only [ev_tmp, ev_const, fset_apply, Nat.reduceEqDiff, ↓reduceIte, decide_true, decide_false, f6, f8, f10, hjl', hjN', hjN, h0j, hx, hcj, Int.toNat_natCast, Nat.zero_add, ff_11]; done)) | (refine WK.condF ?_ ?_; focus (simp only [ev_tmp, ev_const, fset_apply, Nat.reduceEqDiff, ↓reduceIte, decide_true, decide_false, f6, f8, f10, hjl', hjN', hjN, h0j, hx, hcj, Int.toNat_natCast, Nat.zero_add, ff_11]; done)))
    refine nextS _ f0 f5 f6 f7 f8 ?_ ?_
    · simp only [packed, fset_apply, Nat.reduceEqDiff, ↓reduceIte, List.getD_cons_zero, List.getD_cons_succ, hall, ff_11]
      simpa using f9
    · simp only [packed, fset_apply, Nat.reduceEqDiff, ↓reduceIte, List.getD_cons_zero, List.getD_cons_succ, wrap_up hjl (show i ≤ maxL by unfold maxL; omega), ff_11]
  | true =>
    rw [hl] at hcj hall
    cases hm : Mini.mv O i j with
    | true =>
      rw [hm] at hmj hall
      repeat (first | apply WK.seq | apply WK.block | apply WK.skipSeq | apply WK.skipBlock | apply WK.retSeq | apply WK.retBlock | apply WK.exitSeq | apply WK.exitHere | refine WK.exitOn rfl ?_ | ((first | (refine WK.rgn ?_ ?_; kernel_rfl) | refine AtCall.now ?_); simp (config := { maxSteps := 1000000 }) only [SS, forall_const, wx, tguard, acallee, top, tval, fput, tor, vsh, vbin, vun, tload, tload2, tload3, tidx, tidx2, tidx3, tlen2, tlen3, tpick, Int.reduceEq, Int.reduceNeg, Nat.reduceGT, Nat.reduceLT, Nat.reduceLeDiff, Nat.reduceEqDiff, ↓reduceIte, reduceCtorEq, Int.reduceToNat, Int.reduceLE, Int.reduceLT, Nat.reduceAdd, Nat.reduceMul, f5, f6, f8, f10, hjl', hil', hil, h0i, hjN', hjN, h0j, hx, hcj, hxo1, hOi, hyi, hmj, Int.toNat_natCast, Nat.zero_add, ff_11]) | (refine WK.condT ?_ ?_; focus (simp only [ev_tmp, ev_const, fset_apply, Nat.reduceEqDiff, ↓reduceIte, decide_true, decide_false, f5, f6, f8, f10, hjl', hil', hil, h0i, hjN', hjN, h0j, hx, hcj, hxo1, hOi, hyi, hmj, Int.toNat_natCast, Nat.zero_add, ff_11]; done)) | (refine WK.condF ?_ ?_; focus (simp only [ev_tmp, ev_const, fset_apply, Nat.reduceEqDiff, ↓reduceIte, decide_true, decide_false, f5, f6, f8, f10, hjl', hil', hil, h0i, hjN', hjN, h0j, hx, hcj, hxo1, hOi, hyi, hmj, Int.toNat_natCast, Nat.zero_add, ff_11]; done)))
      refine nextS _ f0 f5 f6 f7 f8 ?_ ?_
      · simp only [packed, fset_apply, Nat.reduceEqDiff, ↓reduceIte, List.getD_cons_zero, List.getD_cons_succ, hall, ff_11]
        simpa using f9
      · simp only [packed, fset_apply, Nat.reduceEqDiff, ↓reduceIte, List.getD_cons_zero, List.getD_cons_succ, wrap_up hjl (show i ≤ maxL by unfold maxL; omega), ff_11]
    | false =>
      rw [hm] at hmj hall
      repeat (first | apply WK.seq | apply WK.block | apply WK.skipSeq | apply WK.skipBlock | apply WK.retSeq | apply WK.retBlock | apply WK.exitSeq | apply WK.exitHere | refine WK.exitOn rfl ?_ | ((first | (refine WK.rgn ?_ ?_; kernel_rfl) | refine AtCall.now ?_); simp (config := { maxSteps := 1000000 }) only [SS, forall_const, wx, tguard, acallee, top, tval, fput, tor, vsh, vbin, vun, tload, tload2, tload3, tidx, tidx2, tidx3, tlen2, tlen3, tpick, Int.reduceEq, Int.reduceNeg, Nat.reduceGT, Nat.reduceLT, Nat.reduceLeDiff, Nat.reduceEqDiff, ↓reduceIte, reduceCtorEq, Int.reduceToNat, Int.reduceLE, Int.reduceLT, Nat.reduceAdd, Nat.reduceMul, f5, f6, f8, f10, hjl', hil', hil, h0i, hjN', hjN, h0j, hx, hcj, hxo1, hOi, hyi, hmj, Int.toNat_natCast, Nat.zero_add, ff_11]) | (refine WK.condT ?_ ?_; focus (simp only [ev_tmp, ev_const, fset_apply, Nat.reduceEqDiff, ↓reduceIte, decide_true, decide_false, f5, f6, f8, f10, hjl', hil', hil, h0i, hjN', hjN, h0j, hx, hcj, hxo1, hOi, hyi, hmj, Int.toNat_natCast, Nat.zero_add, ff_11]; done)) | (refine WK.condF ?_ ?_; focus (simp only [ev_tmp, ev_const, fset_apply, Nat.reduceEqDiff, ↓reduceIte, decide_true, decide_false, f5, f6, f8, f10, hjl', hil', hil, h0i, hjN', hjN, h0j, hx, hcj, hxo1, hOi, hyi, hmj, Int.toNat_natCast, Nat.zero_add, ff_11]; done)))
      refine nextS _ f0 f5 f6 f7 f8 ?_ ?_
      · rw [hall]; simp only [packed, fset_apply, Nat.reduceEqDiff, ↓reduceIte, List.getD_cons_zero, List.getD_cons_succ, ff_11]
        simp
      · simp only [packed, fset_apply, Nat.reduceEqDiff, ↓reduceIte, List.getD_cons_zero, List.getD_cons_succ, wrap_up hjl (show i ≤ maxL by unfold maxL; omega), ff_11]
end Go.Proofs.YtgnmaekfiifepaaDoor
