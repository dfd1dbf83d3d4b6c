/- A part of a proof. Its conditions: none. -/
import Derived.Test.YtihjaobjhmmboaaGreatDoorAmUUseU
import Derived.Test.YtihjaobjhmmboaaGreatDoorAmUUseRefC
import Derived.Test.YtihjaobjhmmboaaGreatDoorAmUUseSame
import Derived.Test.YtihjaobjhmmboaaGreatDoorAmULfFew
import Derived.Test.YtihjaobjhmmboaaGreatDoorAmUAlive
set_option linter.all false
namespace Go.Proofs.YtihjaobjhmmboaaGreatDoor
open Go.AM
set_option maxRecDepth 100000

theorem bools_eq {a b : List Bool} (hl : a.length = b.length) {p : Int → Prop} (ha : ∀ v, hold a v ↔ p v) (hb : ∀ v, hold b v ↔ p v) : a = b := by
  apply List.ext_getElem hl
  intro i h1 h2
  have e1 := (holdO h1).symm.trans ((ha i).trans ((hb i).symm.trans (holdO h2)))
  cases h3 : a[i] <;> cases h4 : b[i] <;> simp [h3, h4] at e1 <;> rfl

theorem less_self (a : List Int) : less a a = false := by
  induction a with
  | nil => simp [less]
  | cons x a ih => simp [less, ih]

theorem RightOK.ne {g : Gram} (ok : RightOK g) : g.rules ≠ [] := by
  intro h0
  have := ok.count 0 (by have := ok.vars1; omega)
  rw [h0] at this
  exact this rfl

theorem ints_RA {H : Heap} {x : Nat} {l : List Nat} (h : H x = .cells (l.map natC) 3 true) : RA (Value.int .i64) H (some ⟨x, 0, none⟩) (l.map fun u : Nat => (u : Int)) := by
  intro _
  refine ⟨x, 0, _, _, _, rfl, h, fun i y e => ?_⟩
  rw [List.getElem?_map] at e ⊢
  rw [Nat.zero_add]
  cases hl : l[i]? with
  | none => rw [hl] at e; cases e
  | some u => rw [hl] at e; cases e; rfl

set_option maxHeartbeats 8000000 in
theorem tells_gives {v : Value} {g : Gram} {n : Nat} {H : Heap} (hw : WF n H) (hG : ∀ x, G x ≠ .dead → H x = G x) (hg : RG H v g) (wg : WG g) (ho : RO Tryz.prog H v) :
    Gives Tryz.prog 3 [v] n H fun v _ _ => v = .bool true := by
  have hg0 := hg
  obtain ⟨pt, pv, pr, rfl, ht, hv, hr⟩ := hg
  refine Gives.of orders ok3 (Nat.le_of_ble_eq_true rfl) ?_
  have hk := Kp.new n H (.cells (gcells pt pv pr g) 25 true)
  have hb := hset_at H n (.cells (gcells pt pv pr g) 25 true)
  have hG1 : ∀ x, G x ≠ .dead → hset H n (.cells (gcells pt pv pr g) 25 true) x = G x := fun x hx => by
    rw [hk.keep x, hG x hx]
    apply Classical.byContradiction
    intro hc
    rw [← hG x hx, hw x (by omega)] at hx
    exact hx rfl
-- function 3
  repeat (first | apply WK.seq | apply WK.block | apply WK.skipSeq | apply WK.skipBlock | apply WK.retSeq | apply WK.retBlock | apply WK.exitSeq | apply WK.exitHere | refine WK.exitOn rfl ?_)
  (refine WK.rgn ?_ ?_; kernel_rfl; simp (config := { maxSteps := 1000000 }) only [SS, forall_const, wx, tguard, acallee, top, tval, fput, tor, vsh, vbin, vun, tload, tload2, tload3, tfa, tfa2, tlen2, tpick, textr, tbox, one, Int.reduceEq, Int.reduceNeg, Nat.reduceGT, Nat.reduceLT, Nat.reduceLeDiff, Nat.reduceEqDiff, ↓reduceIte, reduceCtorEq, Int.reduceToNat, Int.reduceLE, Int.reduceLT, Nat.reduceAdd, Nat.reduceMul, box_cells, box_one, ff_3])
  generalize hset H n (.cells (gcells pt pv pr g) 25 true) = H1 at *
  repeat (first | apply WK.seq | apply WK.block | apply WK.skipSeq | apply WK.skipBlock | apply WK.retSeq | apply WK.retBlock | apply WK.exitSeq | apply WK.exitHere | refine WK.exitOn rfl ?_)
  (refine WK.rgn ?_ ?_; kernel_rfl; simp (config := { maxSteps := 1000000 }) only [SS, forall_const, wx, tguard, acallee, top, tval, fput, tor, vsh, vbin, vun, tload, tload2, tload3, tfa, tfa2, tlen2, tpick, textr, tbox, one, Int.reduceEq, Int.reduceNeg, Nat.reduceGT, Nat.reduceLT, Nat.reduceLeDiff, Nat.reduceEqDiff, ↓reduceIte, reduceCtorEq, Int.reduceToNat, Int.reduceLE, Int.reduceLT, Nat.reduceAdd, Nat.reduceMul, ff_3])
  refine AtCall.by (alive_gives _ _ hG1) ?_
  rintro v n' H' hk' ⟨rfl, rfl, rfl⟩
  simp (config := { maxSteps := 1000000 }) only [SS, forall_const, wx, tguard, acallee, top, tval, fput, tor, vsh, vbin, vun, tload, tload2, tload3, tfa, tfa2, tlen2, tpick, textr, tbox, one, Int.reduceEq, Int.reduceNeg, Nat.reduceGT, Nat.reduceLT, Nat.reduceLeDiff, Nat.reduceEqDiff, ↓reduceIte, reduceCtorEq, Int.reduceToNat, Int.reduceLE, Int.reduceLT, Nat.reduceAdd, Nat.reduceMul, ff_3]
  repeat (first | apply WK.seq | apply WK.block | apply WK.skipSeq | apply WK.skipBlock | apply WK.retSeq | apply WK.retBlock | apply WK.exitSeq | apply WK.exitHere | refine WK.exitOn rfl ?_)
  first | (refine WK.condT ?_ ?_; focus (simp only [ev_tmp, ev_const, fset_apply, Nat.reduceEqDiff, ↓reduceIte, decide_true, decide_false]; done)) | (refine WK.condF ?_ ?_; focus (simp only [ev_tmp, ev_const, fset_apply, Nat.reduceEqDiff, ↓reduceIte, decide_true, decide_false]; done))
  repeat (first | apply WK.seq | apply WK.block | apply WK.skipSeq | apply WK.skipBlock | apply WK.retSeq | apply WK.retBlock | apply WK.exitSeq | apply WK.exitHere | refine WK.exitOn rfl ?_)
  (refine WK.rgn ?_ ?_; kernel_rfl; simp (config := { maxSteps := 1000000 }) only [SS, forall_const, wx, tguard, acallee, top, tval, fput, tor, vsh, vbin, vun, tload, tload2, tload3, tfa, tfa2, tlen2, tpick, textr, tbox, one, Int.reduceEq, Int.reduceNeg, Nat.reduceGT, Nat.reduceLT, Nat.reduceLeDiff, Nat.reduceEqDiff, ↓reduceIte, reduceCtorEq, Int.reduceToNat, Int.reduceLE, Int.reduceLT, Nat.reduceAdd, Nat.reduceMul, hb, gc_len, gc_all, ff_3])
  refine AtCall.by (few_gives (hk.wf hw) (hg0.mono hw hk) wg) ?_
  rintro v n2 H2 k2 rfl
  cases hf : few g
  · simp (config := { maxSteps := 1000000 }) only [SS, forall_const, wx, tguard, acallee, top, tval, fput, tor, vsh, vbin, vun, tload, tload2, tload3, tfa, tfa2, tlen2, tpick, textr, tbox, one, Int.reduceEq, Int.reduceNeg, Nat.reduceGT, Nat.reduceLT, Nat.reduceLeDiff, Nat.reduceEqDiff, ↓reduceIte, reduceCtorEq, Int.reduceToNat, Int.reduceLE, Int.reduceLT, Nat.reduceAdd, Nat.reduceMul, ff_3]
    repeat (first | apply WK.seq | apply WK.block | apply WK.skipSeq | apply WK.skipBlock | apply WK.retSeq | apply WK.retBlock | apply WK.exitSeq | apply WK.exitHere | refine WK.exitOn rfl ?_ | ((first | (refine WK.rgn ?_ ?_; kernel_rfl) | refine AtCall.now ?_); simp (config := { maxSteps := 1000000 }) only [SS, forall_const, wx, tguard, acallee, top, tval, fput, tor, vsh, vbin, vun, tload, tload2, tload3, tfa, tfa2, tlen2, tpick, textr, tbox, one, Int.reduceEq, Int.reduceNeg, Nat.reduceGT, Nat.reduceLT, Nat.reduceLeDiff, Nat.reduceEqDiff, ↓reduceIte, reduceCtorEq, Int.reduceToNat, Int.reduceLE, Int.reduceLT, Nat.reduceAdd, Nat.reduceMul, ff_3]) | (refine WK.condT ?_ ?_; focus (simp only [ev_tmp, ev_const, fset_apply, Nat.reduceEqDiff, ↓reduceIte, decide_true, decide_false, ff_3]; done)) | (refine WK.condF ?_ ?_; focus (simp only [ev_tmp, ev_const, fset_apply, Nat.reduceEqDiff, ↓reduceIte, decide_true, decide_false, ff_3]; done)))
    (first | refine WK.retNil ⟨Or.inr rfl, _, rfl, ?_, ?_⟩ | refine WK.skipNil ⟨Or.inl rfl, _, rfl, ?_, ?_⟩)
    · exact (hk.trans k2).keep
    · simp only [packed, fset_apply, Nat.reduceEqDiff, ↓reduceIte, List.getD_cons_zero, List.getD_cons_succ, ff_3]
  have kk2 := hk.trans k2
  have hb2 := (k2.keep n (by omega)).trans hb
  simp (config := { maxSteps := 1000000 }) only [SS, forall_const, wx, tguard, acallee, top, tval, fput, tor, vsh, vbin, vun, tload, tload2, tload3, tfa, tfa2, tlen2, tpick, textr, tbox, one, Int.reduceEq, Int.reduceNeg, Nat.reduceGT, Nat.reduceLT, Nat.reduceLeDiff, Nat.reduceEqDiff, ↓reduceIte, reduceCtorEq, Int.reduceToNat, Int.reduceLE, Int.reduceLT, Nat.reduceAdd, Nat.reduceMul, hb2, gc_len, gc_all, ff_3]
  refine AtCall.by (right_gives (kk2.wf hw) (hg0.mono hw kk2) wg) ?_
  rintro v n3 H3 k3 ⟨t, rfl, hok⟩
  have kk3 := kk2.trans k3
  cases t
  · simp (config := { maxSteps := 1000000 }) only [SS, forall_const, wx, tguard, acallee, top, tval, fput, tor, vsh, vbin, vun, tload, tload2, tload3, tfa, tfa2, tlen2, tpick, textr, tbox, one, Int.reduceEq, Int.reduceNeg, Nat.reduceGT, Nat.reduceLT, Nat.reduceLeDiff, Nat.reduceEqDiff, ↓reduceIte, reduceCtorEq, Int.reduceToNat, Int.reduceLE, Int.reduceLT, Nat.reduceAdd, Nat.reduceMul, ff_3]
    repeat (first | apply WK.seq | apply WK.block | apply WK.skipSeq | apply WK.skipBlock | apply WK.retSeq | apply WK.retBlock | apply WK.exitSeq | apply WK.exitHere | refine WK.exitOn rfl ?_ | ((first | (refine WK.rgn ?_ ?_; kernel_rfl) | refine AtCall.now ?_); simp (config := { maxSteps := 1000000 }) only [SS, forall_const, wx, tguard, acallee, top, tval, fput, tor, vsh, vbin, vun, tload, tload2, tload3, tfa, tfa2, tlen2, tpick, textr, tbox, one, Int.reduceEq, Int.reduceNeg, Nat.reduceGT, Nat.reduceLT, Nat.reduceLeDiff, Nat.reduceEqDiff, ↓reduceIte, reduceCtorEq, Int.reduceToNat, Int.reduceLE, Int.reduceLT, Nat.reduceAdd, Nat.reduceMul, ff_3]) | (refine WK.condT ?_ ?_; focus (simp only [ev_tmp, ev_const, fset_apply, Nat.reduceEqDiff, ↓reduceIte, decide_true, decide_false, ff_3]; done)) | (refine WK.condF ?_ ?_; focus (simp only [ev_tmp, ev_const, fset_apply, Nat.reduceEqDiff, ↓reduceIte, decide_true, decide_false, ff_3]; done)))
    (first | refine WK.retNil ⟨Or.inr rfl, _, rfl, ?_, ?_⟩ | refine WK.skipNil ⟨Or.inl rfl, _, rfl, ?_, ?_⟩)
    · exact kk3.keep
    · simp only [packed, fset_apply, Nat.reduceEqDiff, ↓reduceIte, List.getD_cons_zero, List.getD_cons_succ, ff_3]
  have ok := hok rfl
  have hn2 := k2.le
  have hb3 := (k3.keep n (by omega)).trans hb2
  have hv64 := ok.vars
  simp (config := { maxSteps := 1000000 }) only [SS, forall_const, wx, tguard, acallee, top, tval, fput, tor, vsh, vbin, vun, tload, tload2, tload3, tfa, tfa2, tlen2, tpick, textr, tbox, one, Int.reduceEq, Int.reduceNeg, Nat.reduceGT, Nat.reduceLT, Nat.reduceLeDiff, Nat.reduceEqDiff, ↓reduceIte, reduceCtorEq, Int.reduceToNat, Int.reduceLE, Int.reduceLT, Nat.reduceAdd, Nat.reduceMul, ff_3]
  repeat (first | apply WK.seq | apply WK.block | apply WK.skipSeq | apply WK.skipBlock | apply WK.retSeq | apply WK.retBlock | apply WK.exitSeq | apply WK.exitHere | refine WK.exitOn rfl ?_ | ((first | (refine WK.rgn ?_ ?_; kernel_rfl) | refine AtCall.now ?_); simp (config := { maxSteps := 1000000 }) only [SS, forall_const, wx, tguard, acallee, top, tval, fput, tor, vsh, vbin, vun, tload, tload2, tload3, tfa, tfa2, tlen2, tpick, textr, tbox, one, Int.reduceEq, Int.reduceNeg, Nat.reduceGT, Nat.reduceLT, Nat.reduceLeDiff, Nat.reduceEqDiff, ↓reduceIte, reduceCtorEq, Int.reduceToNat, Int.reduceLE, Int.reduceLT, Nat.reduceAdd, Nat.reduceMul, hb3, gc_len, gc_all, ff_3]) | (refine WK.condT ?_ ?_; focus (simp only [ev_tmp, ev_const, fset_apply, Nat.reduceEqDiff, ↓reduceIte, decide_true, decide_false, hb3, gc_len, gc_all, ff_3]; done)) | (refine WK.condF ?_ ?_; focus (simp only [ev_tmp, ev_const, fset_apply, Nat.reduceEqDiff, ↓reduceIte, decide_true, decide_false, hb3, gc_len, gc_all, ff_3]; done)))
  refine AtCall.by (cost_gives (kk3.wf hw) (hg0.mono hw kk3) wg ok) ?_
  rintro v n4 H4 k4 ⟨cl, bl, rfl, hc4, hb4', hcl, hbl, hOK, _⟩
  have kk4 := kk3.trans k4
  have hn3 := k3.le
  have hb4 := (k4.keep n (by omega)).trans hb3
  have hw4 := kk4.wf hw
  simp (config := { maxSteps := 1000000 }) only [SS, forall_const, wx, tguard, acallee, top, tval, fput, tor, vsh, vbin, vun, tload, tload2, tload3, tfa, tfa2, tlen2, tpick, textr, tbox, one, Int.reduceEq, Int.reduceNeg, Nat.reduceGT, Nat.reduceLT, Nat.reduceLeDiff, Nat.reduceEqDiff, ↓reduceIte, reduceCtorEq, Int.reduceToNat, Int.reduceLE, Int.reduceLT, Nat.reduceAdd, Nat.reduceMul, ff_3]
  repeat (first | apply WK.seq | apply WK.block | apply WK.skipSeq | apply WK.skipBlock | apply WK.retSeq | apply WK.retBlock | apply WK.exitSeq | apply WK.exitHere | refine WK.exitOn rfl ?_ | ((first | (refine WK.rgn ?_ ?_; kernel_rfl) | refine AtCall.now ?_); simp (config := { maxSteps := 1000000 }) only [SS, forall_const, wx, tguard, acallee, top, tval, fput, tor, vsh, vbin, vun, tload, tload2, tload3, tfa, tfa2, tlen2, tpick, textr, tbox, one, Int.reduceEq, Int.reduceNeg, Nat.reduceGT, Nat.reduceLT, Nat.reduceLeDiff, Nat.reduceEqDiff, ↓reduceIte, reduceCtorEq, Int.reduceToNat, Int.reduceLE, Int.reduceLT, Nat.reduceAdd, Nat.reduceMul, hb4, gc_1, gc_len, gc_all, ff_3]) | (refine WK.condT ?_ ?_; focus (simp only [ev_tmp, ev_const, fset_apply, Nat.reduceEqDiff, ↓reduceIte, decide_true, decide_false, hb4, gc_1, gc_len, gc_all, ff_3]; done)) | (refine WK.condF ?_ ?_; focus (simp only [ev_tmp, ev_const, fset_apply, Nat.reduceEqDiff, ↓reduceIte, decide_true, decide_false, hb4, gc_1, gc_len, gc_all, ff_3]; done)))
  refine AtCall.by (costR_gives hw4 (hg0.mono hw kk4) wg ok hOK) ?_
  rintro v n5 H5 k5 ⟨cl2, x5, _, rfl, hcl2, hc5, hceq⟩
  have kk5 := kk4.trans k5
  have hn4 := k4.le
  have hb5 := (k5.keep n (by omega)).trans hb4
  have hw5 := kk5.wf hw
  have hc45 := (k5.keep (n3 + 1) (live_lt hw4 (live_of hc4))).trans hc4
  have hce : cl2 = cl := by
    apply List.ext_getElem (by omega)
    intro i h1 h2
    have := hceq i (by omega)
    simpa [cF, h1, h2] using this
  subst hce
  have hsame := same_gives (n := n5) (ints_RA hc45) (ints_RA hc5) (by rw [List.length_map]; unfold maxL; omega) (by rw [List.length_map]; unfold maxL; omega)
  rw [List.length_map, hcl] at hsame
  simp (config := { maxSteps := 1000000 }) only [SS, forall_const, wx, tguard, acallee, top, tval, fput, tor, vsh, vbin, vun, tload, tload2, tload3, tfa, tfa2, tlen2, tpick, textr, tbox, one, Int.reduceEq, Int.reduceNeg, Nat.reduceGT, Nat.reduceLT, Nat.reduceLeDiff, Nat.reduceEqDiff, ↓reduceIte, reduceCtorEq, Int.reduceToNat, Int.reduceLE, Int.reduceLT, Nat.reduceAdd, Nat.reduceMul, ff_3]
  refine AtCall.by hsame ?_
  rintro v n6 H6 k6 ⟨rfl, rfl, rfl⟩
  have hss : same (cl2.map fun u : Nat => (u : Int)) (cl2.map fun u : Nat => (u : Int)) = true := by unfold same; rw [less_self]; rfl
  simp (config := { maxSteps := 1000000 }) only [SS, forall_const, wx, tguard, acallee, top, tval, fput, tor, vsh, vbin, vun, tload, tload2, tload3, tfa, tfa2, tlen2, tpick, textr, tbox, one, Int.reduceEq, Int.reduceNeg, Nat.reduceGT, Nat.reduceLT, Nat.reduceLeDiff, Nat.reduceEqDiff, ↓reduceIte, reduceCtorEq, Int.reduceToNat, Int.reduceLE, Int.reduceLT, Nat.reduceAdd, Nat.reduceMul, hss, ff_3]
  repeat (first | apply WK.seq | apply WK.block | apply WK.skipSeq | apply WK.skipBlock | apply WK.retSeq | apply WK.retBlock | apply WK.exitSeq | apply WK.exitHere | refine WK.exitOn rfl ?_ | ((first | (refine WK.rgn ?_ ?_; kernel_rfl) | refine AtCall.now ?_); simp (config := { maxSteps := 1000000 }) only [SS, forall_const, wx, tguard, acallee, top, tval, fput, tor, vsh, vbin, vun, tload, tload2, tload3, tfa, tfa2, tlen2, tpick, textr, tbox, one, Int.reduceEq, Int.reduceNeg, Nat.reduceGT, Nat.reduceLT, Nat.reduceLeDiff, Nat.reduceEqDiff, ↓reduceIte, reduceCtorEq, Int.reduceToNat, Int.reduceLE, Int.reduceLT, Nat.reduceAdd, Nat.reduceMul, hb5, gc_len, gc_all, ff_3]) | (refine WK.condT ?_ ?_; focus (simp only [ev_tmp, ev_const, fset_apply, Nat.reduceEqDiff, ↓reduceIte, decide_true, decide_false, hb5, gc_len, gc_all, ff_3]; done)) | (refine WK.condF ?_ ?_; focus (simp only [ev_tmp, ev_const, fset_apply, Nat.reduceEqDiff, ↓reduceIte, decide_true, decide_false, hb5, gc_len, gc_all, ff_3]; done)))
  refine AtCall.by (productive_gives hw5 (hg0.mono hw kk5) wg ok) ?_
  rintro v n7 H7 k7 ⟨a1, x1, _, _, rfl, hl1, hx1, ha1⟩
  have kk7 := kk5.trans k7
  have hw7 := kk7.wf hw
  have hb7 := (k7.keep n (live_lt hw5 (live_of hb5))).trans hb5
  simp (config := { maxSteps := 1000000 }) only [SS, forall_const, wx, tguard, acallee, top, tval, fput, tor, vsh, vbin, vun, tload, tload2, tload3, tfa, tfa2, tlen2, tpick, textr, tbox, one, Int.reduceEq, Int.reduceNeg, Nat.reduceGT, Nat.reduceLT, Nat.reduceLeDiff, Nat.reduceEqDiff, ↓reduceIte, reduceCtorEq, Int.reduceToNat, Int.reduceLE, Int.reduceLT, Nat.reduceAdd, Nat.reduceMul, hb7, gc_len, gc_all, ff_3]
  refine AtCall.by (productiveR_gives hw7 (hg0.mono hw kk7) wg ok) ?_
  rintro v n8 H8 k8 ⟨a2, x2, _, rfl, hl2, hx2, ha2⟩
  have kk8 := kk7.trans k8
  have hw8 := kk8.wf hw
  have hb8 := (k8.keep n (live_lt hw7 (live_of hb7))).trans hb7
  have hx18 := (k8.keep x1 (live_lt hw7 (live_of hx1))).trans hx1
  have hs1 := sameBs_gives (n := n8) hx18 hx2 (by omega)
  rw [hl1, hl2] at hs1
  simp (config := { maxSteps := 1000000 }) only [SS, forall_const, wx, tguard, acallee, top, tval, fput, tor, vsh, vbin, vun, tload, tload2, tload3, tfa, tfa2, tlen2, tpick, textr, tbox, one, Int.reduceEq, Int.reduceNeg, Nat.reduceGT, Nat.reduceLT, Nat.reduceLeDiff, Nat.reduceEqDiff, ↓reduceIte, reduceCtorEq, Int.reduceToNat, Int.reduceLE, Int.reduceLT, Nat.reduceAdd, Nat.reduceMul, ff_3]
  refine AtCall.by hs1 ?_
  rintro v n9 H9 k9 ⟨rfl, rfl, rfl⟩
  have e1 : decide (a1 = a2) = true := decide_eq_true (bools_eq (by omega) ha1 ha2)
  simp (config := { maxSteps := 1000000 }) only [SS, forall_const, wx, tguard, acallee, top, tval, fput, tor, vsh, vbin, vun, tload, tload2, tload3, tfa, tfa2, tlen2, tpick, textr, tbox, one, Int.reduceEq, Int.reduceNeg, Nat.reduceGT, Nat.reduceLT, Nat.reduceLeDiff, Nat.reduceEqDiff, ↓reduceIte, reduceCtorEq, Int.reduceToNat, Int.reduceLE, Int.reduceLT, Nat.reduceAdd, Nat.reduceMul, e1, hb8, gc_len, gc_all, ff_3]
  refine AtCall.by (nullable_gives hw8 (hg0.mono hw kk8) wg ok) ?_
  rintro v n10 H10 k10 ⟨a3, x3, _, _, rfl, hl3, hx3, ha3⟩
  have kk10 := kk8.trans k10
  have hw10 := kk10.wf hw
  have hb10 := (k10.keep n (live_lt hw8 (live_of hb8))).trans hb8
  simp (config := { maxSteps := 1000000 }) only [SS, forall_const, wx, tguard, acallee, top, tval, fput, tor, vsh, vbin, vun, tload, tload2, tload3, tfa, tfa2, tlen2, tpick, textr, tbox, one, Int.reduceEq, Int.reduceNeg, Nat.reduceGT, Nat.reduceLT, Nat.reduceLeDiff, Nat.reduceEqDiff, ↓reduceIte, reduceCtorEq, Int.reduceToNat, Int.reduceLE, Int.reduceLT, Nat.reduceAdd, Nat.reduceMul, hb10, gc_len, gc_all, ff_3]
  refine AtCall.by (nullableR_gives hw10 (hg0.mono hw kk10) wg ok) ?_
  rintro v n11 H11 k11 ⟨a4, x4, _, rfl, hl4, hx4, ha4⟩
  have kk11 := kk10.trans k11
  have hw11 := kk11.wf hw
  have hb11 := (k11.keep n (live_lt hw10 (live_of hb10))).trans hb10
  have hx311 := (k11.keep x3 (live_lt hw10 (live_of hx3))).trans hx3
  have hs2 := sameBs_gives (n := n11) hx311 hx4 (by omega)
  rw [hl3, hl4] at hs2
  simp (config := { maxSteps := 1000000 }) only [SS, forall_const, wx, tguard, acallee, top, tval, fput, tor, vsh, vbin, vun, tload, tload2, tload3, tfa, tfa2, tlen2, tpick, textr, tbox, one, Int.reduceEq, Int.reduceNeg, Nat.reduceGT, Nat.reduceLT, Nat.reduceLeDiff, Nat.reduceEqDiff, ↓reduceIte, reduceCtorEq, Int.reduceToNat, Int.reduceLE, Int.reduceLT, Nat.reduceAdd, Nat.reduceMul, ff_3]
  refine AtCall.by hs2 ?_
  rintro v n12 H12 k12 ⟨rfl, rfl, rfl⟩
  have e2 : decide (a3 = a4) = true := decide_eq_true (bools_eq (by omega) ha3 ha4)
  have ho11 : RO Tryz.prog H12 (.agg (gcells pt pv pr g).toArray) := by
    intro pt' pv' pr' g' hv x k sp hp cs ty own hx hown
    have hp' : pr = pr' ∧ g.rules.length = g'.rules.length := by
      have := congrArg (fun v => match v with | Value.agg cs => cs[2]? | _ => none) hv
      simpa [gcells] using this
    obtain ⟨x0, k0, cs0, ty0, own0, e0, hx0, _⟩ := hr ok.ne
    rw [e0] at hp'
    obtain ⟨hp1, _⟩ := hp'
    rw [hp] at hp1
    cases hp1
    have := (kk11.keep x (live_lt hw (live_of hx0))).trans hx0
    rw [hx] at this
    cases this
    exact ho pt pv pr g rfl x k none e0 cs ty own hx0 hown
  simp (config := { maxSteps := 1000000 }) only [SS, forall_const, wx, tguard, acallee, top, tval, fput, tor, vsh, vbin, vun, tload, tload2, tload3, tfa, tfa2, tlen2, tpick, textr, tbox, one, Int.reduceEq, Int.reduceNeg, Nat.reduceGT, Nat.reduceLT, Nat.reduceLeDiff, Nat.reduceEqDiff, ↓reduceIte, reduceCtorEq, Int.reduceToNat, Int.reduceLE, Int.reduceLT, Nat.reduceAdd, Nat.reduceMul, e2, hb11, gc_len, gc_all, ff_3]
  refine AtCall.by (useful_gives hw11 (hg0.mono hw kk11) wg ok ho11) ?_
  rintro v n13 H13 k13 ⟨a5, x5, _, _, rfl, hl5, hx5, ha5⟩
  have kk13 := kk11.trans k13
  have hw13 := kk13.wf hw
  have hb13 := (k13.keep n (live_lt hw11 (live_of hb11))).trans hb11
  simp (config := { maxSteps := 1000000 }) only [SS, forall_const, wx, tguard, acallee, top, tval, fput, tor, vsh, vbin, vun, tload, tload2, tload3, tfa, tfa2, tlen2, tpick, textr, tbox, one, Int.reduceEq, Int.reduceNeg, Nat.reduceGT, Nat.reduceLT, Nat.reduceLeDiff, Nat.reduceEqDiff, ↓reduceIte, reduceCtorEq, Int.reduceToNat, Int.reduceLE, Int.reduceLT, Nat.reduceAdd, Nat.reduceMul, hb13, gc_len, gc_all, ff_3]
  refine AtCall.by (usefulR_gives hw13 (hg0.mono hw kk13) wg ok) ?_
  rintro v n14 H14 k14 ⟨a6, x6, _, rfl, hl6, hx6, ha6⟩
  have kk14 := kk13.trans k14
  have hx514 := (k14.keep x5 (live_lt hw13 (live_of hx5))).trans hx5
  have hs3 := sameBs_gives (n := n14) hx514 hx6 (by omega)
  rw [hl5, hl6] at hs3
  simp (config := { maxSteps := 1000000 }) only [SS, forall_const, wx, tguard, acallee, top, tval, fput, tor, vsh, vbin, vun, tload, tload2, tload3, tfa, tfa2, tlen2, tpick, textr, tbox, one, Int.reduceEq, Int.reduceNeg, Nat.reduceGT, Nat.reduceLT, Nat.reduceLeDiff, Nat.reduceEqDiff, ↓reduceIte, reduceCtorEq, Int.reduceToNat, Int.reduceLE, Int.reduceLT, Nat.reduceAdd, Nat.reduceMul, ff_3]
  refine AtCall.by hs3 ?_
  rintro v n15 H15 k15 ⟨rfl, rfl, rfl⟩
  have e3 : decide (a5 = a6) = true := decide_eq_true (bools_eq (by omega) ha5 ha6)
  simp (config := { maxSteps := 1000000 }) only [SS, forall_const, wx, tguard, acallee, top, tval, fput, tor, vsh, vbin, vun, tload, tload2, tload3, tfa, tfa2, tlen2, tpick, textr, tbox, one, Int.reduceEq, Int.reduceNeg, Nat.reduceGT, Nat.reduceLT, Nat.reduceLeDiff, Nat.reduceEqDiff, ↓reduceIte, reduceCtorEq, Int.reduceToNat, Int.reduceLE, Int.reduceLT, Nat.reduceAdd, Nat.reduceMul, e3, ff_3]
  repeat (first | apply WK.seq | apply WK.block | apply WK.skipSeq | apply WK.skipBlock | apply WK.retSeq | apply WK.retBlock | apply WK.exitSeq | apply WK.exitHere | refine WK.exitOn rfl ?_ | ((first | (refine WK.rgn ?_ ?_; kernel_rfl) | refine AtCall.now ?_); simp (config := { maxSteps := 1000000 }) only [SS, forall_const, wx, tguard, acallee, top, tval, fput, tor, vsh, vbin, vun, tload, tload2, tload3, tfa, tfa2, tlen2, tpick, textr, tbox, one, Int.reduceEq, Int.reduceNeg, Nat.reduceGT, Nat.reduceLT, Nat.reduceLeDiff, Nat.reduceEqDiff, ↓reduceIte, reduceCtorEq, Int.reduceToNat, Int.reduceLE, Int.reduceLT, Nat.reduceAdd, Nat.reduceMul, ff_3]) | (refine WK.condT ?_ ?_; focus (simp only [ev_tmp, ev_const, fset_apply, Nat.reduceEqDiff, ↓reduceIte, decide_true, decide_false, ff_3]; done)) | (refine WK.condF ?_ ?_; focus (simp only [ev_tmp, ev_const, fset_apply, Nat.reduceEqDiff, ↓reduceIte, decide_true, decide_false, ff_3]; done)))
  (first | refine WK.retNil ⟨Or.inr rfl, _, rfl, ?_, ?_⟩ | refine WK.skipNil ⟨Or.inl rfl, _, rfl, ?_, ?_⟩)
  · exact kk14.keep
  · simp only [packed, fset_apply, Nat.reduceEqDiff, ↓reduceIte, List.getD_cons_zero, List.getD_cons_succ, ff_3]
end Go.Proofs.YtihjaobjhmmboaaGreatDoor
