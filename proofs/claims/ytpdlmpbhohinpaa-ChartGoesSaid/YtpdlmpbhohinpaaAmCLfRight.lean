/- A part of a proof. Its conditions: none. -/
import Derived.Test.YtpdlmpbhohinpaaAmCLfBytes
import Derived.Test.YtpdlmpbhohinpaaAmCLfStr
import Derived.Test.YtpdlmpbhohinpaaAmCLfCount
set_option linter.all false
namespace Go.Proofs.Ytpdlmpbhohinpaa
open Go.AM
set_option maxRecDepth 100000
structure RightOK (g : Gram) : Prop where
  vars1 : 1 ≤ g.vars.length
  vars : g.vars.length ≤ 64
  terms : g.terms.length ≤ 64
  rules : g.rules.length ≤ 256
  rule : ∀ (i : Nat) (h : i < g.rules.length), RuleOK g i g.rules[i]
  count : ∀ v : Nat, v < g.vars.length → countR g.rules v ≠ 0
set_option maxHeartbeats 4000000 in
theorem right_gives {v : Value} {g : Gram} {n : Nat} {H : Heap} (hw : WF n H) (hg : RG H v g) (wg : WG g) :
    Gives Try.prog 30 [v] n H fun v _ _ => ∃ t, v = .bool t ∧ (t = true → RightOK g) := by
  have hg0 := hg
  obtain ⟨pt, pv, pr, rfl, ht, hv, hr⟩ := hg
  refine Gives.of orders ok30 (Nat.le_of_ble_eq_true rfl) ?_
  have hk := Kp.new n H (.cells (gcells pt pv pr g) 25 true)
  have hb := hset_at H n (.cells (gcells pt pv pr g) 25 true)
  repeat (first | apply qqa | apply qqb | apply qqc | apply qqd | apply qqe | apply qqf | apply qqg | apply qqh | refine qqi rfl ?_)
  (refine WK.rgn ?_ ?_; kernel_rfl; simp (config := { maxSteps := 1000000 }) only [SS, qg0, qgb, qgl, qgi, qgf, forall_const, tor, vun, tlen2, tpick, tbox, one, Int.reduceEq, Int.reduceNeg, Nat.reduceGT, Nat.reduceLT, Nat.reduceLeDiff, Nat.reduceEqDiff, ↓reduceIte, reduceCtorEq, Int.reduceToNat, Int.reduceLE, Int.reduceLT, Nat.reduceAdd, Nat.reduceMul, box_cells, box_one, ff_30])
  repeat (first | apply qqa | apply qqb | apply qqc | apply qqd | apply qqe | apply qqf | apply qqg | apply qqh | refine qqi rfl ?_)
  have hw1 := hk.wf hw
  have hg1 := hg0.mono hw hk
  generalize hset H n (.cells (gcells pt pv pr g) 25 true) = H1 at *
  have bad : ∀ (f : Fr) (n' : Nat) (H' : Heap), f 2 = .bool false → Kp (n + 1) H1 n' H' → Fin Try.prog Try.f30.results.toList n H (fun v _ _ => ∃ t, v = .bool t ∧ (t = true → RightOK g)) .ret ⟨f, n', H'⟩ :=
    fun f n' H' hf k => ⟨Or.inr rfl, [f 2], rfl, (hk.trans k).keep, false, hf, fun h => by cases h⟩
  by_cases hA : (g.vars.length : Int) < 1
  · repeat (first | apply qqa | apply qqb | apply qqc | apply qqd | apply qqe | apply qqf | apply qqg | apply qqh | refine qqi rfl ?_ | ((first | (refine WK.rgn ?_ ?_; kernel_rfl) | refine AtCall.now ?_); simp (config := { maxSteps := 1000000 }) only [SS, qg0, qgb, qgl, qgi, qgf, forall_const, tor, vun, tlen2, tpick, tbox, one, Int.reduceEq, Int.reduceNeg, Nat.reduceGT, Nat.reduceLT, Nat.reduceLeDiff, Nat.reduceEqDiff, ↓reduceIte, reduceCtorEq, Int.reduceToNat, Int.reduceLE, Int.reduceLT, Nat.reduceAdd, Nat.reduceMul, hb, gc_0, gc_1, gc_2, hA, ff_30]) | refine qqj rfl ?_ | refine qqk rfl ?_)
    exact WK.retNil (bad _ _ _ rfl (Kp.refl _ _))
  by_cases hB : (64 : Int) < g.vars.length
  · repeat (first | apply qqa | apply qqb | apply qqc | apply qqd | apply qqe | apply qqf | apply qqg | apply qqh | refine qqi rfl ?_ | ((first | (refine WK.rgn ?_ ?_; kernel_rfl) | refine AtCall.now ?_); simp (config := { maxSteps := 1000000 }) only [SS, qg0, qgb, qgl, qgi, qgf, forall_const, tor, vun, tlen2, tpick, tbox, one, Int.reduceEq, Int.reduceNeg, Nat.reduceGT, Nat.reduceLT, Nat.reduceLeDiff, Nat.reduceEqDiff, ↓reduceIte, reduceCtorEq, Int.reduceToNat, Int.reduceLE, Int.reduceLT, Nat.reduceAdd, Nat.reduceMul, hb, gc_0, gc_1, gc_2, hA, hB, ff_30]) | refine qqj rfl ?_ | refine qqk rfl ?_)
    exact WK.retNil (bad _ _ _ rfl (Kp.refl _ _))
  by_cases hC : (64 : Int) < g.terms.length
  · repeat (first | apply qqa | apply qqb | apply qqc | apply qqd | apply qqe | apply qqf | apply qqg | apply qqh | refine qqi rfl ?_ | ((first | (refine WK.rgn ?_ ?_; kernel_rfl) | refine AtCall.now ?_); simp (config := { maxSteps := 1000000 }) only [SS, qg0, qgb, qgl, qgi, qgf, forall_const, tor, vun, tlen2, tpick, tbox, one, Int.reduceEq, Int.reduceNeg, Nat.reduceGT, Nat.reduceLT, Nat.reduceLeDiff, Nat.reduceEqDiff, ↓reduceIte, reduceCtorEq, Int.reduceToNat, Int.reduceLE, Int.reduceLT, Nat.reduceAdd, Nat.reduceMul, hb, gc_0, gc_1, gc_2, hA, hB, hC, ff_30]) | refine qqj rfl ?_ | refine qqk rfl ?_)
    exact WK.retNil (bad _ _ _ rfl (Kp.refl _ _))
  by_cases hD : (256 : Int) < g.rules.length
  · repeat (first | apply qqa | apply qqb | apply qqc | apply qqd | apply qqe | apply qqf | apply qqg | apply qqh | refine qqi rfl ?_ | ((first | (refine WK.rgn ?_ ?_; kernel_rfl) | refine AtCall.now ?_); simp (config := { maxSteps := 1000000 }) only [SS, qg0, qgb, qgl, qgi, qgf, forall_const, tor, vun, tlen2, tpick, tbox, one, Int.reduceEq, Int.reduceNeg, Nat.reduceGT, Nat.reduceLT, Nat.reduceLeDiff, Nat.reduceEqDiff, ↓reduceIte, reduceCtorEq, Int.reduceToNat, Int.reduceLE, Int.reduceLT, Nat.reduceAdd, Nat.reduceMul, hb, gc_0, gc_1, gc_2, hA, hB, hC, hD, ff_30]) | refine qqj rfl ?_ | refine qqk rfl ?_)
    exact WK.retNil (bad _ _ _ rfl (Kp.refl _ _))
  repeat (first | apply qqa | apply qqb | apply qqc | apply qqd | apply qqe | apply qqf | apply qqg | apply qqh | refine qqi rfl ?_ | ((first | (refine WK.rgn ?_ ?_; kernel_rfl) | refine AtCall.now ?_); simp (config := { maxSteps := 1000000 }) only [SS, qg0, qgb, qgl, qgi, qgf, forall_const, tor, vun, tlen2, tpick, tbox, one, Int.reduceEq, Int.reduceNeg, Nat.reduceGT, Nat.reduceLT, Nat.reduceLeDiff, Nat.reduceEqDiff, ↓reduceIte, reduceCtorEq, Int.reduceToNat, Int.reduceLE, Int.reduceLT, Nat.reduceAdd, Nat.reduceMul, hb, gc_0, gc_1, gc_2, hA, hB, hC, hD, ff_30]) | refine qqj rfl ?_ | refine qqk rfl ?_)
  refine WK.loop (fun k s => ∃ j, s.n = n + 1 ∧ s.H = H1 ∧ s.f 1 = .pointer (some ⟨n, 0, none⟩) ∧ s.f 3 = .int .i64 (j : Nat) ∧ j ≤ g.vars.length ∧ k = g.vars.length - j) g.vars.length ?_ ?_
  · exact ⟨0, rfl, rfl, rfl, rfl, Nat.zero_le _, rfl⟩
  rintro kk ⟨f, n', H'⟩ ⟨j, rfl, rfl, f1, f3, hj, rfl⟩ ih
  simp only at f1 f3 ih hb hw1 hg1 hk bad
  obtain ⟨pt', pv', pr', e', ht1, hv1, hr1⟩ := hg1
  obtain ⟨rfl, rfl, rfl⟩ : pt = pt' ∧ pv = pv' ∧ pr = pr' := by simpa [gcells] using e'
  by_cases hjr : j < g.vars.length
  · obtain ⟨x, k, cs, ty, own, rfl, hx, e⟩ := hv1.at hjr
    repeat (first | apply qqa | apply qqb | apply qqc | apply qqd | apply qqe | apply qqf | apply qqg | apply qqh | refine qqi rfl ?_ | ((first | (refine WK.rgn ?_ ?_; kernel_rfl) | refine AtCall.now ?_); simp (config := { maxSteps := 1000000 }) only [SS, qg0, qgb, qgl, qgi, qgf, forall_const, tor, vun, tlen2, tpick, tbox, one, Int.reduceEq, Int.reduceNeg, Nat.reduceGT, Nat.reduceLT, Nat.reduceLeDiff, Nat.reduceEqDiff, ↓reduceIte, reduceCtorEq, Int.reduceToNat, Int.reduceLE, Int.reduceLT, Nat.reduceAdd, Nat.reduceMul, f1, f3, hb, gc_0, gc_1, gc_2, hjr, hx, e, ff_30]) | refine qqj rfl ?_ | refine qqk rfl ?_)
    refine AtCall.by (isName_gives _ _ _) ?_
    rintro v n' H' hk' ⟨⟨t, rfl⟩, rfl, rfl⟩
    cases t
    · simp (config := { maxSteps := 1000000 }) only [SS, qg0, qgb, qgl, qgi, qgf, forall_const, tor, vun, tlen2, tpick, tbox, one, Int.reduceEq, Int.reduceNeg, Nat.reduceGT, Nat.reduceLT, Nat.reduceLeDiff, Nat.reduceEqDiff, ↓reduceIte, reduceCtorEq, Int.reduceToNat, Int.reduceLE, Int.reduceLT, Nat.reduceAdd, Nat.reduceMul, hb, hx, f1, f3, ff_30]
      repeat (first | apply qqa | apply qqb | apply qqc | apply qqd | apply qqe | apply qqf | apply qqg | apply qqh | refine qqi rfl ?_ | ((first | (refine WK.rgn ?_ ?_; kernel_rfl) | refine AtCall.now ?_); simp (config := { maxSteps := 1000000 }) only [SS, qg0, qgb, qgl, qgi, qgf, forall_const, tor, vun, tlen2, tpick, tbox, one, Int.reduceEq, Int.reduceNeg, Nat.reduceGT, Nat.reduceLT, Nat.reduceLeDiff, Nat.reduceEqDiff, ↓reduceIte, reduceCtorEq, Int.reduceToNat, Int.reduceLE, Int.reduceLT, Nat.reduceAdd, Nat.reduceMul, hb, hx, f1, f3, ff_30]) | refine qqj rfl ?_ | refine qqk rfl ?_)
      exact WK.retNil (bad _ _ _ rfl (Kp.refl _ _))
    · simp (config := { maxSteps := 1000000 }) only [SS, qg0, qgb, qgl, qgi, qgf, forall_const, tor, vun, tlen2, tpick, tbox, one, Int.reduceEq, Int.reduceNeg, Nat.reduceGT, Nat.reduceLT, Nat.reduceLeDiff, Nat.reduceEqDiff, ↓reduceIte, reduceCtorEq, Int.reduceToNat, Int.reduceLE, Int.reduceLT, Nat.reduceAdd, Nat.reduceMul, f1, f3, hb, gc_0, gc_1, gc_2, hjr, hx, e, ff_30]
      refine AtCall.by (place_gives hv1 wg.vars) ?_
      rintro v n' H' hk' ⟨rfl, rfl, rfl⟩
      by_cases hP : place g.vars g.vars[j] 0 = j
      · simp (config := { maxSteps := 1000000 }) only [SS, qg0, qgb, qgl, qgi, qgf, forall_const, tor, vun, tlen2, tpick, tbox, one, Int.reduceEq, Int.reduceNeg, Nat.reduceGT, Nat.reduceLT, Nat.reduceLeDiff, Nat.reduceEqDiff, ↓reduceIte, reduceCtorEq, Int.reduceToNat, Int.reduceLE, Int.reduceLT, Nat.reduceAdd, Nat.reduceMul, f1, f3, hP, ff_30]
        repeat (first | apply qqa | apply qqb | apply qqc | apply qqd | apply qqe | apply qqf | apply qqg | apply qqh | refine qqi rfl ?_ | ((first | (refine WK.rgn ?_ ?_; kernel_rfl) | refine AtCall.now ?_); simp (config := { maxSteps := 1000000 }) only [SS, qg0, qgb, qgl, qgi, qgf, forall_const, tor, vun, tlen2, tpick, tbox, one, Int.reduceEq, Int.reduceNeg, Nat.reduceGT, Nat.reduceLT, Nat.reduceLeDiff, Nat.reduceEqDiff, ↓reduceIte, reduceCtorEq, Int.reduceToNat, Int.reduceLE, Int.reduceLT, Nat.reduceAdd, Nat.reduceMul, f1, f3, hP, ff_30]) | refine qqj rfl ?_ | refine qqk rfl ?_)
        refine ih (g.vars.length - (j + 1)) (by omega) _ ⟨j + 1, rfl, rfl, f1, ?_, hjr, rfl⟩
        simp only [packed, fset_apply, Nat.reduceEqDiff, ↓reduceIte, List.getD_cons_zero, List.getD_cons_succ, f3, ff_30]
        rw [wrap_in (by omega) (by omega)]; rfl
      · simp (config := { maxSteps := 1000000 }) only [SS, qg0, qgb, qgl, qgi, qgf, forall_const, tor, vun, tlen2, tpick, tbox, one, Int.reduceEq, Int.reduceNeg, Nat.reduceGT, Nat.reduceLT, Nat.reduceLeDiff, Nat.reduceEqDiff, ↓reduceIte, reduceCtorEq, Int.reduceToNat, Int.reduceLE, Int.reduceLT, Nat.reduceAdd, Nat.reduceMul, f1, f3, hP, ff_30]
        repeat (first | apply qqa | apply qqb | apply qqc | apply qqd | apply qqe | apply qqf | apply qqg | apply qqh | refine qqi rfl ?_ | ((first | (refine WK.rgn ?_ ?_; kernel_rfl) | refine AtCall.now ?_); simp (config := { maxSteps := 1000000 }) only [SS, qg0, qgb, qgl, qgi, qgf, forall_const, tor, vun, tlen2, tpick, tbox, one, Int.reduceEq, Int.reduceNeg, Nat.reduceGT, Nat.reduceLT, Nat.reduceLeDiff, Nat.reduceEqDiff, ↓reduceIte, reduceCtorEq, Int.reduceToNat, Int.reduceLE, Int.reduceLT, Nat.reduceAdd, Nat.reduceMul, f1, f3, hP, ff_30]) | refine qqj rfl ?_ | refine qqk rfl ?_)
        exact WK.retNil (bad _ _ _ rfl (Kp.refl _ _))
  · repeat (first | apply qqa | apply qqb | apply qqc | apply qqd | apply qqe | apply qqf | apply qqg | apply qqh | refine qqi rfl ?_ | ((first | (refine WK.rgn ?_ ?_; kernel_rfl) | refine AtCall.now ?_); simp (config := { maxSteps := 1000000 }) only [SS, qg0, qgb, qgl, qgi, qgf, forall_const, tor, vun, tlen2, tpick, tbox, one, Int.reduceEq, Int.reduceNeg, Nat.reduceGT, Nat.reduceLT, Nat.reduceLeDiff, Nat.reduceEqDiff, ↓reduceIte, reduceCtorEq, Int.reduceToNat, Int.reduceLE, Int.reduceLT, Nat.reduceAdd, Nat.reduceMul, f1, f3, hb, gc_0, gc_1, gc_2, hjr, ff_30]) | refine qqj rfl ?_ | refine qqk rfl ?_)
    clear ih f3
    refine WK.loop (fun k s => ∃ j, s.n = n + 1 ∧ s.H = H' ∧ s.f 1 = .pointer (some ⟨n, 0, none⟩) ∧ s.f 4 = .int .i64 (j : Nat) ∧ j ≤ g.terms.length ∧ k = g.terms.length - j) g.terms.length ?_ ?_
    · exact ⟨0, rfl, rfl, f1, rfl, Nat.zero_le _, rfl⟩
    rintro kk ⟨f, n', H'⟩ ⟨j, rfl, rfl, f1, f4, hj, rfl⟩ ih
    simp only at f1 f4 ih hb hw1 ht1 hv1 hr1 hk bad
    by_cases hjr : j < g.terms.length
    · obtain ⟨x, k, cs, ty, own, rfl, hx, e⟩ := ht1.at hjr
      have hsz := wg.size g.terms[j] (List.mem_append_left _ (List.getElem_mem hjr))
      repeat (first | apply qqa | apply qqb | apply qqc | apply qqd | apply qqe | apply qqf | apply qqg | apply qqh | refine qqi rfl ?_ | ((first | (refine WK.rgn ?_ ?_; kernel_rfl) | refine AtCall.now ?_); simp (config := { maxSteps := 1000000 }) only [SS, qg0, qgb, qgl, qgi, qgf, forall_const, tor, vun, tlen2, tpick, tbox, one, Int.reduceEq, Int.reduceNeg, Nat.reduceGT, Nat.reduceLT, Nat.reduceLeDiff, Nat.reduceEqDiff, ↓reduceIte, reduceCtorEq, Int.reduceToNat, Int.reduceLE, Int.reduceLT, Nat.reduceAdd, Nat.reduceMul, f1, f4, hb, gc_0, gc_1, gc_2, hjr, hx, e, ff_30]) | refine qqj rfl ?_ | refine qqk rfl ?_)
      refine AtCall.by (isQuote_gives _ hsz _ _) ?_
      rintro v n' H' hk' ⟨⟨t, rfl⟩, rfl, rfl⟩
      cases t
      · simp (config := { maxSteps := 1000000 }) only [SS, qg0, qgb, qgl, qgi, qgf, forall_const, tor, vun, tlen2, tpick, tbox, one, Int.reduceEq, Int.reduceNeg, Nat.reduceGT, Nat.reduceLT, Nat.reduceLeDiff, Nat.reduceEqDiff, ↓reduceIte, reduceCtorEq, Int.reduceToNat, Int.reduceLE, Int.reduceLT, Nat.reduceAdd, Nat.reduceMul, hb, hx, f1, f4, ff_30]
        repeat (first | apply qqa | apply qqb | apply qqc | apply qqd | apply qqe | apply qqf | apply qqg | apply qqh | refine qqi rfl ?_ | ((first | (refine WK.rgn ?_ ?_; kernel_rfl) | refine AtCall.now ?_); simp (config := { maxSteps := 1000000 }) only [SS, qg0, qgb, qgl, qgi, qgf, forall_const, tor, vun, tlen2, tpick, tbox, one, Int.reduceEq, Int.reduceNeg, Nat.reduceGT, Nat.reduceLT, Nat.reduceLeDiff, Nat.reduceEqDiff, ↓reduceIte, reduceCtorEq, Int.reduceToNat, Int.reduceLE, Int.reduceLT, Nat.reduceAdd, Nat.reduceMul, hb, hx, f1, f4, ff_30]) | refine qqj rfl ?_ | refine qqk rfl ?_)
        exact WK.retNil (bad _ _ _ rfl (Kp.refl _ _))
      · by_cases hj0 : (0 : Int) < j
        · have hw' : IntKind.i64.wrap ((j : Int) - 1) = ((j - 1 : Nat) : Int) := by rw [wrap_in (by omega) (by omega)]; omega
          have hj' : j - 1 < g.terms.length := by omega
          obtain ⟨x', k', cs', ty', own', e', hx', e2⟩ := ht1.at hj'
          cases e'
          rw [hx] at hx'
          cases hx'
          by_cases hL : (!Op.bytesLess g.terms[j - 1].toList g.terms[j].toList) = true
          · simp (config := { maxSteps := 1000000 }) only [SS, qg0, qgb, qgl, qgi, qgf, forall_const, tor, vun, tlen2, tpick, tbox, one, Int.reduceEq, Int.reduceNeg, Nat.reduceGT, Nat.reduceLT, Nat.reduceLeDiff, Nat.reduceEqDiff, ↓reduceIte, reduceCtorEq, Int.reduceToNat, Int.reduceLE, Int.reduceLT, Nat.reduceAdd, Nat.reduceMul, f1, f4, hb, gc_0, gc_1, gc_2, hjr, hx, e, hj0, hw', hj', e2, hL, ff_30]
            repeat (first | apply qqa | apply qqb | apply qqc | apply qqd | apply qqe | apply qqf | apply qqg | apply qqh | refine qqi rfl ?_ | ((first | (refine WK.rgn ?_ ?_; kernel_rfl) | refine AtCall.now ?_); simp (config := { maxSteps := 1000000 }) only [SS, qg0, qgb, qgl, qgi, qgf, forall_const, tor, vun, tlen2, tpick, tbox, one, Int.reduceEq, Int.reduceNeg, Nat.reduceGT, Nat.reduceLT, Nat.reduceLeDiff, Nat.reduceEqDiff, ↓reduceIte, reduceCtorEq, Int.reduceToNat, Int.reduceLE, Int.reduceLT, Nat.reduceAdd, Nat.reduceMul, f1, f4, hL, ff_30]) | refine qqj rfl ?_ | refine qqk rfl ?_)
            exact WK.retNil (bad _ _ _ rfl (Kp.refl _ _))
          · have hL : (!Op.bytesLess g.terms[j - 1].toList g.terms[j].toList) = false := by simpa using hL
            simp (config := { maxSteps := 1000000 }) only [SS, qg0, qgb, qgl, qgi, qgf, forall_const, tor, vun, tlen2, tpick, tbox, one, Int.reduceEq, Int.reduceNeg, Nat.reduceGT, Nat.reduceLT, Nat.reduceLeDiff, Nat.reduceEqDiff, ↓reduceIte, reduceCtorEq, Int.reduceToNat, Int.reduceLE, Int.reduceLT, Nat.reduceAdd, Nat.reduceMul, f1, f4, hb, gc_0, gc_1, gc_2, hjr, hx, e, hj0, hw', hj', e2, hL, ff_30]
            repeat (first | apply qqa | apply qqb | apply qqc | apply qqd | apply qqe | apply qqf | apply qqg | apply qqh | refine qqi rfl ?_ | ((first | (refine WK.rgn ?_ ?_; kernel_rfl) | refine AtCall.now ?_); simp (config := { maxSteps := 1000000 }) only [SS, qg0, qgb, qgl, qgi, qgf, forall_const, tor, vun, tlen2, tpick, tbox, one, Int.reduceEq, Int.reduceNeg, Nat.reduceGT, Nat.reduceLT, Nat.reduceLeDiff, Nat.reduceEqDiff, ↓reduceIte, reduceCtorEq, Int.reduceToNat, Int.reduceLE, Int.reduceLT, Nat.reduceAdd, Nat.reduceMul, f1, f4, hL, ff_30]) | refine qqj rfl ?_ | refine qqk rfl ?_)
            refine ih (g.terms.length - (j + 1)) (by omega) _ ⟨j + 1, rfl, rfl, f1, ?_, hjr, rfl⟩
            simp only [packed, fset_apply, Nat.reduceEqDiff, ↓reduceIte, List.getD_cons_zero, List.getD_cons_succ, f4, ff_30]
            rw [wrap_in (by omega) (by omega)]; rfl
        · simp (config := { maxSteps := 1000000 }) only [SS, qg0, qgb, qgl, qgi, qgf, forall_const, tor, vun, tlen2, tpick, tbox, one, Int.reduceEq, Int.reduceNeg, Nat.reduceGT, Nat.reduceLT, Nat.reduceLeDiff, Nat.reduceEqDiff, ↓reduceIte, reduceCtorEq, Int.reduceToNat, Int.reduceLE, Int.reduceLT, Nat.reduceAdd, Nat.reduceMul, f1, f4, hb, gc_0, gc_1, gc_2, hjr, hx, e, hj0, ff_30]
          repeat (first | apply qqa | apply qqb | apply qqc | apply qqd | apply qqe | apply qqf | apply qqg | apply qqh | refine qqi rfl ?_ | ((first | (refine WK.rgn ?_ ?_; kernel_rfl) | refine AtCall.now ?_); simp (config := { maxSteps := 1000000 }) only [SS, qg0, qgb, qgl, qgi, qgf, forall_const, tor, vun, tlen2, tpick, tbox, one, Int.reduceEq, Int.reduceNeg, Nat.reduceGT, Nat.reduceLT, Nat.reduceLeDiff, Nat.reduceEqDiff, ↓reduceIte, reduceCtorEq, Int.reduceToNat, Int.reduceLE, Int.reduceLT, Nat.reduceAdd, Nat.reduceMul, f1, f4, ff_30]) | refine qqj rfl ?_ | refine qqk rfl ?_)
          refine ih (g.terms.length - (j + 1)) (by omega) _ ⟨j + 1, rfl, rfl, f1, ?_, hjr, rfl⟩
          simp only [packed, fset_apply, Nat.reduceEqDiff, ↓reduceIte, List.getD_cons_zero, List.getD_cons_succ, f4, ff_30]
          rw [wrap_in (by omega) (by omega)]; rfl
    · repeat (first | apply qqa | apply qqb | apply qqc | apply qqd | apply qqe | apply qqf | apply qqg | apply qqh | refine qqi rfl ?_ | ((first | (refine WK.rgn ?_ ?_; kernel_rfl) | refine AtCall.now ?_); simp (config := { maxSteps := 1000000 }) only [SS, qg0, qgb, qgl, qgi, qgf, forall_const, tor, vun, tlen2, tpick, tbox, one, Int.reduceEq, Int.reduceNeg, Nat.reduceGT, Nat.reduceLT, Nat.reduceLeDiff, Nat.reduceEqDiff, ↓reduceIte, reduceCtorEq, Int.reduceToNat, Int.reduceLE, Int.reduceLT, Nat.reduceAdd, Nat.reduceMul, f1, f4, hb, gc_0, gc_1, gc_2, hjr, ff_30]) | refine qqj rfl ?_ | refine qqk rfl ?_)
      clear ih f4
      have hb0 := hb
      have hw0 := hw1
      have hg1 : RG H' (.agg (gcells pt pv pr g).toArray) g := ⟨pt, pv, pr, rfl, ht1, hv1, hr1⟩
      have kl : ∀ {n2 : Nat} {H2 : Heap}, Kp (n + 1) H' n2 H2 → H2 n = .cells (gcells pt pv pr g) 25 true ∧ WF n2 H2 ∧ RG H2 (.agg (gcells pt pv pr g).toArray) g :=
        fun k => ⟨(k.keep n (by omega)).trans hb, k.wf hw1, hg1.mono hw1 k⟩
      refine WK.loop (fun k s => ∃ j, Kp (n + 1) H' s.n s.H ∧ s.f 1 = .pointer (some ⟨n, 0, none⟩) ∧ s.f 5 = .int .i64 (j : Nat) ∧ j ≤ g.rules.length ∧ k = g.rules.length - j ∧ ∀ (i : Nat) (h : i < g.rules.length), i < j → RuleOK g i g.rules[i]) g.rules.length ?_ ?_
      · exact ⟨0, Kp.refl _ _, f1, rfl, Nat.zero_le _, rfl, fun i h hi => by omega⟩
      rintro kk ⟨f, n2, H2⟩ ⟨j, kp, f1, f5, hj, rfl, hru⟩ ih
      simp only at f1 f5 ih kp
      obtain ⟨hb2, hw2, hg2⟩ := kl kp
      by_cases hjr : j < g.rules.length
      · repeat (first | apply qqa | apply qqb | apply qqc | apply qqd | apply qqe | apply qqf | apply qqg | apply qqh | refine qqi rfl ?_ | ((first | (refine WK.rgn ?_ ?_; kernel_rfl) | refine AtCall.now ?_); simp (config := { maxSteps := 1000000 }) only [SS, qg0, qgb, qgl, qgi, qgf, forall_const, tor, vun, tlen2, tpick, tbox, one, Int.reduceEq, Int.reduceNeg, Nat.reduceGT, Nat.reduceLT, Nat.reduceLeDiff, Nat.reduceEqDiff, ↓reduceIte, reduceCtorEq, Int.reduceToNat, Int.reduceLE, Int.reduceLT, Nat.reduceAdd, Nat.reduceMul, f1, f5, hb2, gc_0, gc_1, gc_2, gc_len, gc_all, hjr, ff_30]) | refine qqj rfl ?_ | refine qqk rfl ?_)
        refine AtCall.by (rule_gives hw2 hg2 wg hjr) ?_
        rintro v n3 H3 hk3 ⟨t, rfl, hrule⟩
        have kp3 := kp.trans hk3
        cases t
        · simp (config := { maxSteps := 1000000 }) only [SS, qg0, qgb, qgl, qgi, qgf, forall_const, tor, vun, tlen2, tpick, tbox, one, Int.reduceEq, Int.reduceNeg, Nat.reduceGT, Nat.reduceLT, Nat.reduceLeDiff, Nat.reduceEqDiff, ↓reduceIte, reduceCtorEq, Int.reduceToNat, Int.reduceLE, Int.reduceLT, Nat.reduceAdd, Nat.reduceMul, f1, f5, ff_30]
          repeat (first | apply qqa | apply qqb | apply qqc | apply qqd | apply qqe | apply qqf | apply qqg | apply qqh | refine qqi rfl ?_ | ((first | (refine WK.rgn ?_ ?_; kernel_rfl) | refine AtCall.now ?_); simp (config := { maxSteps := 1000000 }) only [SS, qg0, qgb, qgl, qgi, qgf, forall_const, tor, vun, tlen2, tpick, tbox, one, Int.reduceEq, Int.reduceNeg, Nat.reduceGT, Nat.reduceLT, Nat.reduceLeDiff, Nat.reduceEqDiff, ↓reduceIte, reduceCtorEq, Int.reduceToNat, Int.reduceLE, Int.reduceLT, Nat.reduceAdd, Nat.reduceMul, f1, f5, ff_30]) | refine qqj rfl ?_ | refine qqk rfl ?_)
          exact WK.retNil (bad _ _ _ rfl kp3)
        · simp (config := { maxSteps := 1000000 }) only [SS, qg0, qgb, qgl, qgi, qgf, forall_const, tor, vun, tlen2, tpick, tbox, one, Int.reduceEq, Int.reduceNeg, Nat.reduceGT, Nat.reduceLT, Nat.reduceLeDiff, Nat.reduceEqDiff, ↓reduceIte, reduceCtorEq, Int.reduceToNat, Int.reduceLE, Int.reduceLT, Nat.reduceAdd, Nat.reduceMul, f1, f5, ff_30]
          repeat (first | apply qqa | apply qqb | apply qqc | apply qqd | apply qqe | apply qqf | apply qqg | apply qqh | refine qqi rfl ?_ | ((first | (refine WK.rgn ?_ ?_; kernel_rfl) | refine AtCall.now ?_); simp (config := { maxSteps := 1000000 }) only [SS, qg0, qgb, qgl, qgi, qgf, forall_const, tor, vun, tlen2, tpick, tbox, one, Int.reduceEq, Int.reduceNeg, Nat.reduceGT, Nat.reduceLT, Nat.reduceLeDiff, Nat.reduceEqDiff, ↓reduceIte, reduceCtorEq, Int.reduceToNat, Int.reduceLE, Int.reduceLT, Nat.reduceAdd, Nat.reduceMul, f1, f5, ff_30]) | refine qqj rfl ?_ | refine qqk rfl ?_)
          refine ih (g.rules.length - (j + 1)) (by omega) _ ⟨j + 1, kp3, f1, ?_, hjr, rfl, fun i h hi => ?_⟩
          · simp only [packed, fset_apply, Nat.reduceEqDiff, ↓reduceIte, List.getD_cons_zero, List.getD_cons_succ, f5, ff_30]
            rw [wrap_in (by omega) (by omega)]; rfl
          · rcases Nat.lt_or_ge i j with h1 | h1
            · exact hru i h h1
            · have : i = j := by omega
              subst this; exact hrule rfl
      · repeat (first | apply qqa | apply qqb | apply qqc | apply qqd | apply qqe | apply qqf | apply qqg | apply qqh | refine qqi rfl ?_ | ((first | (refine WK.rgn ?_ ?_; kernel_rfl) | refine AtCall.now ?_); simp (config := { maxSteps := 1000000 }) only [SS, qg0, qgb, qgl, qgi, qgf, forall_const, tor, vun, tlen2, tpick, tbox, one, Int.reduceEq, Int.reduceNeg, Nat.reduceGT, Nat.reduceLT, Nat.reduceLeDiff, Nat.reduceEqDiff, ↓reduceIte, reduceCtorEq, Int.reduceToNat, Int.reduceLE, Int.reduceLT, Nat.reduceAdd, Nat.reduceMul, f1, f5, hb2, gc_0, gc_1, gc_2, hjr, ff_30]) | refine qqj rfl ?_ | refine qqk rfl ?_)
        clear ih f5 hw2 hg2 hb2
        refine WK.loop (fun k s => ∃ j, Kp (n + 1) H' s.n s.H ∧ s.f 1 = .pointer (some ⟨n, 0, none⟩) ∧ s.f 6 = .int .i64 (j : Nat) ∧ j ≤ g.vars.length ∧ k = g.vars.length - j ∧ ∀ i : Nat, i < j → countR g.rules i ≠ 0) g.vars.length ?_ ?_
        · exact ⟨0, kp, f1, rfl, Nat.zero_le _, rfl, fun i hi => by omega⟩
        rintro kk ⟨f, n2, H2⟩ ⟨j2, kp, f1, f6, hj2, rfl, hcn⟩ ih
        simp only at f1 f6 ih kp
        obtain ⟨hb2, hw2, hg2⟩ := kl kp
        by_cases hjv : j2 < g.vars.length
        · repeat (first | apply qqa | apply qqb | apply qqc | apply qqd | apply qqe | apply qqf | apply qqg | apply qqh | refine qqi rfl ?_ | ((first | (refine WK.rgn ?_ ?_; kernel_rfl) | refine AtCall.now ?_); simp (config := { maxSteps := 1000000 }) only [SS, qg0, qgb, qgl, qgi, qgf, forall_const, tor, vun, tlen2, tpick, tbox, one, Int.reduceEq, Int.reduceNeg, Nat.reduceGT, Nat.reduceLT, Nat.reduceLeDiff, Nat.reduceEqDiff, ↓reduceIte, reduceCtorEq, Int.reduceToNat, Int.reduceLE, Int.reduceLT, Nat.reduceAdd, Nat.reduceMul, f1, f6, hb2, gc_0, gc_1, gc_2, gc_len, gc_all, hjv, ff_30]) | refine qqj rfl ?_ | refine qqk rfl ?_)
          refine AtCall.by (count_gives hw2 hg2 wg) ?_
          rintro v n3 H3 hk3 rfl
          have kp3 := kp.trans hk3
          by_cases hz : ((countR g.rules j2 : Nat) : Int) = 0
          · simp (config := { maxSteps := 1000000 }) only [SS, qg0, qgb, qgl, qgi, qgf, forall_const, tor, vun, tlen2, tpick, tbox, one, Int.reduceEq, Int.reduceNeg, Nat.reduceGT, Nat.reduceLT, Nat.reduceLeDiff, Nat.reduceEqDiff, ↓reduceIte, reduceCtorEq, Int.reduceToNat, Int.reduceLE, Int.reduceLT, Nat.reduceAdd, Nat.reduceMul, f1, f6, hz, ff_30]
            repeat (first | apply qqa | apply qqb | apply qqc | apply qqd | apply qqe | apply qqf | apply qqg | apply qqh | refine qqi rfl ?_ | ((first | (refine WK.rgn ?_ ?_; kernel_rfl) | refine AtCall.now ?_); simp (config := { maxSteps := 1000000 }) only [SS, qg0, qgb, qgl, qgi, qgf, forall_const, tor, vun, tlen2, tpick, tbox, one, Int.reduceEq, Int.reduceNeg, Nat.reduceGT, Nat.reduceLT, Nat.reduceLeDiff, Nat.reduceEqDiff, ↓reduceIte, reduceCtorEq, Int.reduceToNat, Int.reduceLE, Int.reduceLT, Nat.reduceAdd, Nat.reduceMul, f1, f6, ff_30]) | refine qqj rfl ?_ | refine qqk rfl ?_)
            exact WK.retNil (bad _ _ _ rfl kp3)
          · simp (config := { maxSteps := 1000000 }) only [SS, qg0, qgb, qgl, qgi, qgf, forall_const, tor, vun, tlen2, tpick, tbox, one, Int.reduceEq, Int.reduceNeg, Nat.reduceGT, Nat.reduceLT, Nat.reduceLeDiff, Nat.reduceEqDiff, ↓reduceIte, reduceCtorEq, Int.reduceToNat, Int.reduceLE, Int.reduceLT, Nat.reduceAdd, Nat.reduceMul, f1, f6, hz, ff_30]
            repeat (first | apply qqa | apply qqb | apply qqc | apply qqd | apply qqe | apply qqf | apply qqg | apply qqh | refine qqi rfl ?_ | ((first | (refine WK.rgn ?_ ?_; kernel_rfl) | refine AtCall.now ?_); simp (config := { maxSteps := 1000000 }) only [SS, qg0, qgb, qgl, qgi, qgf, forall_const, tor, vun, tlen2, tpick, tbox, one, Int.reduceEq, Int.reduceNeg, Nat.reduceGT, Nat.reduceLT, Nat.reduceLeDiff, Nat.reduceEqDiff, ↓reduceIte, reduceCtorEq, Int.reduceToNat, Int.reduceLE, Int.reduceLT, Nat.reduceAdd, Nat.reduceMul, f1, f6, ff_30]) | refine qqj rfl ?_ | refine qqk rfl ?_)
            refine ih (g.vars.length - (j2 + 1)) (by omega) _ ⟨j2 + 1, kp3, f1, ?_, hjv, rfl, fun i hi => ?_⟩
            · simp only [packed, fset_apply, Nat.reduceEqDiff, ↓reduceIte, List.getD_cons_zero, List.getD_cons_succ, f6, ff_30]
              rw [wrap_in (by omega) (by omega)]; rfl
            · rcases Nat.lt_or_ge i j2 with h1 | h1
              · exact hcn i h1
              · have : i = j2 := by omega
                subst this; omega
        · repeat (first | apply qqa | apply qqb | apply qqc | apply qqd | apply qqe | apply qqf | apply qqg | apply qqh | refine qqi rfl ?_ | ((first | (refine WK.rgn ?_ ?_; kernel_rfl) | refine AtCall.now ?_); simp (config := { maxSteps := 1000000 }) only [SS, qg0, qgb, qgl, qgi, qgf, forall_const, tor, vun, tlen2, tpick, tbox, one, Int.reduceEq, Int.reduceNeg, Nat.reduceGT, Nat.reduceLT, Nat.reduceLeDiff, Nat.reduceEqDiff, ↓reduceIte, reduceCtorEq, Int.reduceToNat, Int.reduceLE, Int.reduceLT, Nat.reduceAdd, Nat.reduceMul, f1, f6, hb2, gc_0, gc_1, gc_2, hjv, ff_30]) | refine qqj rfl ?_ | refine qqk rfl ?_)
          clear ih f6 hw2 hg2 hb2
          refine WK.loop (fun k s => ∃ j, Kp (n + 1) H' s.n s.H ∧ s.f 1 = .pointer (some ⟨n, 0, none⟩) ∧ s.f 7 = .int .i64 (j : Nat) ∧ j ≤ g.terms.length ∧ k = g.terms.length - j) g.terms.length ?_ ?_
          · exact ⟨0, kp, f1, rfl, Nat.zero_le _, rfl⟩
          rintro kk ⟨f, n2, H2⟩ ⟨j3, kp, f1, f7, hj3, rfl⟩ ih
          simp only at f1 f7 ih kp
          obtain ⟨hb2, hw2, hg2⟩ := kl kp
          by_cases hjt : j3 < g.terms.length
          · have hn := bnot_i64 (n := (j3 : Int)) (by omega) (by omega)
            repeat (first | apply qqa | apply qqb | apply qqc | apply qqd | apply qqe | apply qqf | apply qqg | apply qqh | refine qqi rfl ?_ | ((first | (refine WK.rgn ?_ ?_; kernel_rfl) | refine AtCall.now ?_); simp (config := { maxSteps := 1000000 }) only [SS, qg0, qgb, qgl, qgi, qgf, forall_const, tor, vun, tlen2, tpick, tbox, one, Int.reduceEq, Int.reduceNeg, Nat.reduceGT, Nat.reduceLT, Nat.reduceLeDiff, Nat.reduceEqDiff, ↓reduceIte, reduceCtorEq, Int.reduceToNat, Int.reduceLE, Int.reduceLT, Nat.reduceAdd, Nat.reduceMul, f1, f7, hb2, gc_0, gc_1, gc_2, gc_len, gc_all, hjt, hn, ff_30]) | refine qqj rfl ?_ | refine qqk rfl ?_)
            refine AtCall.by (uses_gives hw2 hg2 wg) ?_
            rintro v n3 H3 hk3 rfl
            have kp3 := kp.trans hk3
            cases hu : usesR g.rules (-(j3 : Int) - 1)
            · simp (config := { maxSteps := 1000000 }) only [SS, qg0, qgb, qgl, qgi, qgf, forall_const, tor, vun, tlen2, tpick, tbox, one, Int.reduceEq, Int.reduceNeg, Nat.reduceGT, Nat.reduceLT, Nat.reduceLeDiff, Nat.reduceEqDiff, ↓reduceIte, reduceCtorEq, Int.reduceToNat, Int.reduceLE, Int.reduceLT, Nat.reduceAdd, Nat.reduceMul, f1, f7, ff_30]
              repeat (first | apply qqa | apply qqb | apply qqc | apply qqd | apply qqe | apply qqf | apply qqg | apply qqh | refine qqi rfl ?_ | ((first | (refine WK.rgn ?_ ?_; kernel_rfl) | refine AtCall.now ?_); simp (config := { maxSteps := 1000000 }) only [SS, qg0, qgb, qgl, qgi, qgf, forall_const, tor, vun, tlen2, tpick, tbox, one, Int.reduceEq, Int.reduceNeg, Nat.reduceGT, Nat.reduceLT, Nat.reduceLeDiff, Nat.reduceEqDiff, ↓reduceIte, reduceCtorEq, Int.reduceToNat, Int.reduceLE, Int.reduceLT, Nat.reduceAdd, Nat.reduceMul, f1, f7, ff_30]) | refine qqj rfl ?_ | refine qqk rfl ?_)
              exact WK.retNil (bad _ _ _ rfl kp3)
            · simp (config := { maxSteps := 1000000 }) only [SS, qg0, qgb, qgl, qgi, qgf, forall_const, tor, vun, tlen2, tpick, tbox, one, Int.reduceEq, Int.reduceNeg, Nat.reduceGT, Nat.reduceLT, Nat.reduceLeDiff, Nat.reduceEqDiff, ↓reduceIte, reduceCtorEq, Int.reduceToNat, Int.reduceLE, Int.reduceLT, Nat.reduceAdd, Nat.reduceMul, f1, f7, ff_30]
              repeat (first | apply qqa | apply qqb | apply qqc | apply qqd | apply qqe | apply qqf | apply qqg | apply qqh | refine qqi rfl ?_ | ((first | (refine WK.rgn ?_ ?_; kernel_rfl) | refine AtCall.now ?_); simp (config := { maxSteps := 1000000 }) only [SS, qg0, qgb, qgl, qgi, qgf, forall_const, tor, vun, tlen2, tpick, tbox, one, Int.reduceEq, Int.reduceNeg, Nat.reduceGT, Nat.reduceLT, Nat.reduceLeDiff, Nat.reduceEqDiff, ↓reduceIte, reduceCtorEq, Int.reduceToNat, Int.reduceLE, Int.reduceLT, Nat.reduceAdd, Nat.reduceMul, f1, f7, ff_30]) | refine qqj rfl ?_ | refine qqk rfl ?_)
              refine ih (g.terms.length - (j3 + 1)) (by omega) _ ⟨j3 + 1, kp3, f1, ?_, hjt, rfl⟩
              simp only [packed, fset_apply, Nat.reduceEqDiff, ↓reduceIte, List.getD_cons_zero, List.getD_cons_succ, f7, ff_30]
              rw [wrap_in (by omega) (by omega)]; rfl
          · repeat (first | apply qqa | apply qqb | apply qqc | apply qqd | apply qqe | apply qqf | apply qqg | apply qqh | refine qqi rfl ?_ | ((first | (refine WK.rgn ?_ ?_; kernel_rfl) | refine AtCall.now ?_); simp (config := { maxSteps := 1000000 }) only [SS, qg0, qgb, qgl, qgi, qgf, forall_const, tor, vun, tlen2, tpick, tbox, one, Int.reduceEq, Int.reduceNeg, Nat.reduceGT, Nat.reduceLT, Nat.reduceLeDiff, Nat.reduceEqDiff, ↓reduceIte, reduceCtorEq, Int.reduceToNat, Int.reduceLE, Int.reduceLT, Nat.reduceAdd, Nat.reduceMul, f1, f7, hb2, gc_0, gc_1, gc_2, hjt, ff_30]) | refine qqj rfl ?_ | refine qqk rfl ?_)
            (first | refine WK.retNil ⟨Or.inr rfl, _, rfl, ?_, ?_⟩ | refine WK.skipNil ⟨Or.inl rfl, _, rfl, ?_, ?_⟩)
            · exact (hk.trans kp).keep
            · exact ⟨true, rfl, fun _ => ⟨by omega, by omega, by omega, by omega, fun i h => hru i h (by omega), fun v hv => hcn v (by omega)⟩⟩
end Go.Proofs.Ytpdlmpbhohinpaa
