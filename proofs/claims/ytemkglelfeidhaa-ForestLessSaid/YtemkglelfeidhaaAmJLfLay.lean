/- A part of a proof. Its conditions: none. -/
import Derived.Test.YtemkglelfeidhaaAmJLfStr
import Derived.Test.YtemkglelfeidhaaAmJFoRep
import Derived.Test.YtemkglelfeidhaaAmJFacts
import Derived.Test.YtemkglelfeidhaaAmC
import Derived.Test.YtemkglelfeidhaaAmD
set_option linter.all false
namespace Go.Proofs.Ytemkglelfeidhaa
open Go.AM
set_option maxRecDepth 100000
structure RightOK (g : Gram) : Prop where
  vars1 : 1 ≤ g.vars.length
  vars : g.vars.length ≤ 64
  terms : g.terms.length ≤ 64
  rules : g.rules.length ≤ 256
  rule : ∀ (i : Nat) (h : i < g.rules.length), RuleOK g i g.rules[i]
  count : ∀ v : Nat, v < g.vars.length → countR g.rules v ≠ 0
set_option maxHeartbeats 4000000 in
theorem right_gives {v : Value} {g : Gram} {n : Nat} {H : Heap} (hw : WF n H) (hg : RG H v g) (wg : WG g) :
    Gives Try.prog 9 [v] n H fun v _ _ => ∃ t, v = .bool t ∧ (t = true → RightOK g) := by
  have hg0 := hg
  obtain ⟨pt, pv, pr, rfl, ht, hv, hr⟩ := hg
  refine Gives.of orders ok9 (Nat.le_of_ble_eq_true rfl) ?_
  have hk := Kp.new n H (.cells (gcells pt pv pr g) 25 true)
  have hb := hset_at H n (.cells (gcells pt pv pr g) 25 true)
  repeat (first | refine qqn rfl ?_)
  (refine WK.rgn ?_ ?_; kernel_rfl; simp (config := {maxSteps:=999999}) only [SS, qx0, forall_const, vun, simprocAttr, box_cells, box_one, ff_9])
  repeat (first | refine qqn rfl ?_)
  have hw1 := hk.wf hw
  have hg1 := hg0.mono hw hk
  generalize hset H n (.cells (gcells pt pv pr g) 25 true) = H1 at *
  have bad : ∀ (f : Fr) (n' : Nat) (H' : Heap), f 2 = .bool false → Kp (n + 1) H1 n' H' → Fin Try.prog Try.f9.results.toList n H (fun v _ _ => ∃ t, v = .bool t ∧ (t = true → RightOK g)) .ret ⟨f, n', H'⟩ :=
    fun f n' H' hf k => ⟨Or.inr rfl, [f 2], rfl, (hk.trans k).keep, false, hf, fun h => by cases h⟩
  by_cases hA : (g.vars.length : Int) < 1
  · repeat (first | refine qqn rfl ?_ | ((first | (refine WK.rgn ?_ ?_; kernel_rfl) | refine AtCall.now ?_); simp (config := {maxSteps:=999999}) only [SS, qx0, forall_const, vun, simprocAttr, hb, gc_0, gc_1, gc_2, hA, ff_9]) | refine qqj rfl ?_ | refine qqk rfl ?_)
    exact WK.retNil (bad _ _ _ rfl (Kp.refl _ _))
  by_cases hB : (64 : Int) < g.vars.length
  · repeat (first | refine qqn rfl ?_ | ((first | (refine WK.rgn ?_ ?_; kernel_rfl) | refine AtCall.now ?_); simp (config := {maxSteps:=999999}) only [SS, qx0, forall_const, vun, simprocAttr, hb, gc_0, gc_1, gc_2, hA, hB, ff_9]) | refine qqj rfl ?_ | refine qqk rfl ?_)
    exact WK.retNil (bad _ _ _ rfl (Kp.refl _ _))
  by_cases hC : (64 : Int) < g.terms.length
  · repeat (first | refine qqn rfl ?_ | ((first | (refine WK.rgn ?_ ?_; kernel_rfl) | refine AtCall.now ?_); simp (config := {maxSteps:=999999}) only [SS, qx0, forall_const, vun, simprocAttr, hb, gc_0, gc_1, gc_2, hA, hB, hC, ff_9]) | refine qqj rfl ?_ | refine qqk rfl ?_)
    exact WK.retNil (bad _ _ _ rfl (Kp.refl _ _))
  by_cases hD : (256 : Int) < g.rules.length
  · repeat (first | refine qqn rfl ?_ | ((first | (refine WK.rgn ?_ ?_; kernel_rfl) | refine AtCall.now ?_); simp (config := {maxSteps:=999999}) only [SS, qx0, forall_const, vun, simprocAttr, hb, gc_0, gc_1, gc_2, hA, hB, hC, hD, ff_9]) | refine qqj rfl ?_ | refine qqk rfl ?_)
    exact WK.retNil (bad _ _ _ rfl (Kp.refl _ _))
  repeat (first | refine qqn rfl ?_ | ((first | (refine WK.rgn ?_ ?_; kernel_rfl) | refine AtCall.now ?_); simp (config := {maxSteps:=999999}) only [SS, qx0, forall_const, vun, simprocAttr, hb, gc_0, gc_1, gc_2, hA, hB, hC, hD, ff_9]) | refine qqj rfl ?_ | refine qqk rfl ?_)
  refine WK.loop (fun k s => ∃ j, s.n = n + 1 ∧ s.H = H1 ∧ s.f 1 = .pointer (some ⟨n, 0, none⟩) ∧ s.f 3 = .int .i64 (j : Nat) ∧ j ≤ g.vars.length ∧ k = g.vars.length - j) g.vars.length ?_ ?_
  · exact ⟨0, rfl, rfl, rfl, rfl, Nat.zero_le _, rfl⟩
  rintro kk ⟨f, n', H'⟩ ⟨j, rfl, rfl, f1, f3, hj, rfl⟩ ih
  simp only at f1 f3 ih hb hw1 hg1 hk bad
  obtain ⟨pt', pv', pr', e', ht1, hv1, hr1⟩ := hg1
  obtain ⟨rfl, rfl, rfl⟩ : pt = pt' ∧ pv = pv' ∧ pr = pr' := by simpa [gcells] using e'
  by_cases hjr : j < g.vars.length
  · obtain ⟨x, k, cs, ty, own, rfl, hx, e⟩ := hv1.at hjr
    repeat (first | refine qqn rfl ?_ | ((first | (refine WK.rgn ?_ ?_; kernel_rfl) | refine AtCall.now ?_); simp (config := {maxSteps:=999999}) only [SS, qx0, forall_const, vun, simprocAttr, f1, f3, hb, gc_0, gc_1, gc_2, hjr, hx, e, ff_9]) | refine qqj rfl ?_ | refine qqk rfl ?_)
    refine AtCall.by (isName_gives _ _ _) ?_
    rintro v n' H' hk' ⟨⟨t, rfl⟩, rfl, rfl⟩
    cases t
    · simp (config := {maxSteps:=999999}) only [SS, qx0, forall_const, vun, simprocAttr, hb, hx, f1, f3, ff_9]
      repeat (first | refine qqn rfl ?_ | ((first | (refine WK.rgn ?_ ?_; kernel_rfl) | refine AtCall.now ?_); simp (config := {maxSteps:=999999}) only [SS, qx0, forall_const, vun, simprocAttr, hb, hx, f1, f3, ff_9]) | refine qqj rfl ?_ | refine qqk rfl ?_)
      exact WK.retNil (bad _ _ _ rfl (Kp.refl _ _))
    · simp (config := {maxSteps:=999999}) only [SS, qx0, forall_const, vun, simprocAttr, f1, f3, hb, gc_0, gc_1, gc_2, hjr, hx, e, ff_9]
      refine AtCall.by (place_gives hv1 wg.vars) ?_
      rintro v n' H' hk' ⟨rfl, rfl, rfl⟩
      by_cases hP : place g.vars g.vars[j] 0 = j
      · simp (config := {maxSteps:=999999}) only [SS, qx0, forall_const, vun, simprocAttr, f1, f3, hP, ff_9]
        repeat (first | refine qqn rfl ?_ | ((first | (refine WK.rgn ?_ ?_; kernel_rfl) | refine AtCall.now ?_); simp (config := {maxSteps:=999999}) only [SS, qx0, forall_const, vun, simprocAttr, f1, f3, hP, ff_9]) | refine qqj rfl ?_ | refine qqk rfl ?_)
        refine ih (g.vars.length - (j + 1)) (by omega) _ ⟨j + 1, rfl, rfl, f1, ?_, hjr, rfl⟩
        simp only [packed, fset_apply, Nat.reduceEqDiff, ↓reduceIte, List.getD_cons_zero, List.getD_cons_succ, f3, ff_9]
        rw [wrap_in (by omega) (by omega)]; rfl
      · simp (config := {maxSteps:=999999}) only [SS, qx0, forall_const, vun, simprocAttr, f1, f3, hP, ff_9]
        repeat (first | refine qqn rfl ?_ | ((first | (refine WK.rgn ?_ ?_; kernel_rfl) | refine AtCall.now ?_); simp (config := {maxSteps:=999999}) only [SS, qx0, forall_const, vun, simprocAttr, f1, f3, hP, ff_9]) | refine qqj rfl ?_ | refine qqk rfl ?_)
        exact WK.retNil (bad _ _ _ rfl (Kp.refl _ _))
  · repeat (first | refine qqn rfl ?_ | ((first | (refine WK.rgn ?_ ?_; kernel_rfl) | refine AtCall.now ?_); simp (config := {maxSteps:=999999}) only [SS, qx0, forall_const, vun, simprocAttr, f1, f3, hb, gc_0, gc_1, gc_2, hjr, ff_9]) | refine qqj rfl ?_ | refine qqk rfl ?_)
    clear ih f3
    refine WK.loop (fun k s => ∃ j, s.n = n + 1 ∧ s.H = H' ∧ s.f 1 = .pointer (some ⟨n, 0, none⟩) ∧ s.f 4 = .int .i64 (j : Nat) ∧ j ≤ g.terms.length ∧ k = g.terms.length - j) g.terms.length ?_ ?_
    · exact ⟨0, rfl, rfl, f1, rfl, Nat.zero_le _, rfl⟩
    rintro kk ⟨f, n', H'⟩ ⟨j, rfl, rfl, f1, f4, hj, rfl⟩ ih
    simp only at f1 f4 ih hb hw1 ht1 hv1 hr1 hk bad
    by_cases hjr : j < g.terms.length
    · obtain ⟨x, k, cs, ty, own, rfl, hx, e⟩ := ht1.at hjr
      have hsz := wg.size g.terms[j] (List.mem_append_left _ (List.getElem_mem hjr))
      repeat (first | refine qqn rfl ?_ | ((first | (refine WK.rgn ?_ ?_; kernel_rfl) | refine AtCall.now ?_); simp (config := {maxSteps:=999999}) only [SS, qx0, forall_const, vun, simprocAttr, f1, f4, hb, gc_0, gc_1, gc_2, hjr, hx, e, ff_9]) | refine qqj rfl ?_ | refine qqk rfl ?_)
      refine AtCall.by (isQuote_gives _ hsz _ _) ?_
      rintro v n' H' hk' ⟨⟨t, rfl⟩, rfl, rfl⟩
      cases t
      · simp (config := {maxSteps:=999999}) only [SS, qx0, forall_const, vun, simprocAttr, hb, hx, f1, f4, ff_9]
        repeat (first | refine qqn rfl ?_ | ((first | (refine WK.rgn ?_ ?_; kernel_rfl) | refine AtCall.now ?_); simp (config := {maxSteps:=999999}) only [SS, qx0, forall_const, vun, simprocAttr, hb, hx, f1, f4, ff_9]) | refine qqj rfl ?_ | refine qqk rfl ?_)
        exact WK.retNil (bad _ _ _ rfl (Kp.refl _ _))
      · by_cases hj0 : (0 : Int) < j
        · have hw' : IntKind.i64.wrap ((j : Int) - 1) = ((j - 1 : Nat) : Int) := by rw [wrap_in (by omega) (by omega)]; omega
          have hj' : j - 1 < g.terms.length := by omega
          obtain ⟨x', k', cs', ty', own', e', hx', e2⟩ := ht1.at hj'
          cases e'
          rw [hx] at hx'
          cases hx'
          by_cases hL : (!Op.bytesLess g.terms[j - 1].toList g.terms[j].toList) = true
          · simp (config := {maxSteps:=999999}) only [SS, qx0, forall_const, vun, simprocAttr, f1, f4, hb, gc_0, gc_1, gc_2, hjr, hx, e, hj0, hw', hj', e2, hL, ff_9]
            repeat (first | refine qqn rfl ?_ | ((first | (refine WK.rgn ?_ ?_; kernel_rfl) | refine AtCall.now ?_); simp (config := {maxSteps:=999999}) only [SS, qx0, forall_const, vun, simprocAttr, f1, f4, hL, ff_9]) | refine qqj rfl ?_ | refine qqk rfl ?_)
            exact WK.retNil (bad _ _ _ rfl (Kp.refl _ _))
          · have hL : (!Op.bytesLess g.terms[j - 1].toList g.terms[j].toList) = false := by simpa using hL
            simp (config := {maxSteps:=999999}) only [SS, qx0, forall_const, vun, simprocAttr, f1, f4, hb, gc_0, gc_1, gc_2, hjr, hx, e, hj0, hw', hj', e2, hL, ff_9]
            repeat (first | refine qqn rfl ?_ | ((first | (refine WK.rgn ?_ ?_; kernel_rfl) | refine AtCall.now ?_); simp (config := {maxSteps:=999999}) only [SS, qx0, forall_const, vun, simprocAttr, f1, f4, hL, ff_9]) | refine qqj rfl ?_ | refine qqk rfl ?_)
            refine ih (g.terms.length - (j + 1)) (by omega) _ ⟨j + 1, rfl, rfl, f1, ?_, hjr, rfl⟩
            simp only [packed, fset_apply, Nat.reduceEqDiff, ↓reduceIte, List.getD_cons_zero, List.getD_cons_succ, f4, ff_9]
            rw [wrap_in (by omega) (by omega)]; rfl
        · simp (config := {maxSteps:=999999}) only [SS, qx0, forall_const, vun, simprocAttr, f1, f4, hb, gc_0, gc_1, gc_2, hjr, hx, e, hj0, ff_9]
          repeat (first | refine qqn rfl ?_ | ((first | (refine WK.rgn ?_ ?_; kernel_rfl) | refine AtCall.now ?_); simp (config := {maxSteps:=999999}) only [SS, qx0, forall_const, vun, simprocAttr, f1, f4, ff_9]) | refine qqj rfl ?_ | refine qqk rfl ?_)
          refine ih (g.terms.length - (j + 1)) (by omega) _ ⟨j + 1, rfl, rfl, f1, ?_, hjr, rfl⟩
          simp only [packed, fset_apply, Nat.reduceEqDiff, ↓reduceIte, List.getD_cons_zero, List.getD_cons_succ, f4, ff_9]
          rw [wrap_in (by omega) (by omega)]; rfl
    · repeat (first | refine qqn rfl ?_ | ((first | (refine WK.rgn ?_ ?_; kernel_rfl) | refine AtCall.now ?_); simp (config := {maxSteps:=999999}) only [SS, qx0, forall_const, vun, simprocAttr, f1, f4, hb, gc_0, gc_1, gc_2, hjr, ff_9]) | refine qqj rfl ?_ | refine qqk rfl ?_)
      clear ih f4
      have hb0 := hb
      have hw0 := hw1
      have hg1 : RG H' (.agg (gcells pt pv pr g).toArray) g := ⟨pt, pv, pr, rfl, ht1, hv1, hr1⟩
      have kl : ∀ {n2 : Nat} {H2 : Heap}, Kp (n + 1) H' n2 H2 → H2 n = .cells (gcells pt pv pr g) 25 true ∧ WF n2 H2 ∧ RG H2 (.agg (gcells pt pv pr g).toArray) g :=
        fun k => ⟨(k.keep n (by omega)).trans hb, k.wf hw1, hg1.mono hw1 k⟩
      refine WK.loop (fun k s => ∃ j, Kp (n + 1) H' s.n s.H ∧ s.f 1 = .pointer (some ⟨n, 0, none⟩) ∧ s.f 5 = .int .i64 (j : Nat) ∧ j ≤ g.rules.length ∧ k = g.rules.length - j ∧ ∀ (i : Nat) (h : i < g.rules.length), i < j → RuleOK g i g.rules[i]) g.rules.length ?_ ?_
      · exact ⟨0, Kp.refl _ _, f1, rfl, Nat.zero_le _, rfl, fun i h hi => by omega⟩
      rintro kk ⟨f, n2, H2⟩ ⟨j, kp, f1, f5, hj, rfl, hru⟩ ih
      simp only at f1 f5 ih kp
      obtain ⟨hb2, hw2, hg2⟩ := kl kp
      by_cases hjr : j < g.rules.length
      · repeat (first | refine qqn rfl ?_ | ((first | (refine WK.rgn ?_ ?_; kernel_rfl) | refine AtCall.now ?_); simp (config := {maxSteps:=999999}) only [SS, qx0, forall_const, vun, simprocAttr, f1, f5, hb2, gc_0, gc_1, gc_2, gc_len, gc_all, hjr, ff_9]) | refine qqj rfl ?_ | refine qqk rfl ?_)
        refine AtCall.by (rule_gives hw2 hg2 wg hjr) ?_
        rintro v n3 H3 hk3 ⟨t, rfl, hrule⟩
        have kp3 := kp.trans hk3
        cases t
        · simp (config := {maxSteps:=999999}) only [SS, qx0, forall_const, vun, simprocAttr, f1, f5, ff_9]
          repeat (first | refine qqn rfl ?_ | ((first | (refine WK.rgn ?_ ?_; kernel_rfl) | refine AtCall.now ?_); simp (config := {maxSteps:=999999}) only [SS, qx0, forall_const, vun, simprocAttr, f1, f5, ff_9]) | refine qqj rfl ?_ | refine qqk rfl ?_)
          exact WK.retNil (bad _ _ _ rfl kp3)
        · simp (config := {maxSteps:=999999}) only [SS, qx0, forall_const, vun, simprocAttr, f1, f5, ff_9]
          repeat (first | refine qqn rfl ?_ | ((first | (refine WK.rgn ?_ ?_; kernel_rfl) | refine AtCall.now ?_); simp (config := {maxSteps:=999999}) only [SS, qx0, forall_const, vun, simprocAttr, f1, f5, ff_9]) | refine qqj rfl ?_ | refine qqk rfl ?_)
          refine ih (g.rules.length - (j + 1)) (by omega) _ ⟨j + 1, kp3, f1, ?_, hjr, rfl, fun i h hi => ?_⟩
          · simp only [packed, fset_apply, Nat.reduceEqDiff, ↓reduceIte, List.getD_cons_zero, List.getD_cons_succ, f5, ff_9]
            rw [wrap_in (by omega) (by omega)]; rfl
          · rcases Nat.lt_or_ge i j with h1 | h1
            · exact hru i h h1
            · have : i = j := by omega
              subst this; exact hrule rfl
      · repeat (first | refine qqn rfl ?_ | ((first | (refine WK.rgn ?_ ?_; kernel_rfl) | refine AtCall.now ?_); simp (config := {maxSteps:=999999}) only [SS, qx0, forall_const, vun, simprocAttr, f1, f5, hb2, gc_0, gc_1, gc_2, hjr, ff_9]) | refine qqj rfl ?_ | refine qqk rfl ?_)
        clear ih f5 hw2 hg2 hb2
        refine WK.loop (fun k s => ∃ j, Kp (n + 1) H' s.n s.H ∧ s.f 1 = .pointer (some ⟨n, 0, none⟩) ∧ s.f 6 = .int .i64 (j : Nat) ∧ j ≤ g.vars.length ∧ k = g.vars.length - j ∧ ∀ i : Nat, i < j → countR g.rules i ≠ 0) g.vars.length ?_ ?_
        · exact ⟨0, kp, f1, rfl, Nat.zero_le _, rfl, fun i hi => by omega⟩
        rintro kk ⟨f, n2, H2⟩ ⟨j2, kp, f1, f6, hj2, rfl, hcn⟩ ih
        simp only at f1 f6 ih kp
        obtain ⟨hb2, hw2, hg2⟩ := kl kp
        by_cases hjv : j2 < g.vars.length
        · repeat (first | refine qqn rfl ?_ | ((first | (refine WK.rgn ?_ ?_; kernel_rfl) | refine AtCall.now ?_); simp (config := {maxSteps:=999999}) only [SS, qx0, forall_const, vun, simprocAttr, f1, f6, hb2, gc_0, gc_1, gc_2, gc_len, gc_all, hjv, ff_9]) | refine qqj rfl ?_ | refine qqk rfl ?_)
          refine AtCall.by (count_gives hw2 hg2 wg) ?_
          rintro v n3 H3 hk3 rfl
          have kp3 := kp.trans hk3
          by_cases hz : ((countR g.rules j2 : Nat) : Int) = 0
          · simp (config := {maxSteps:=999999}) only [SS, qx0, forall_const, vun, simprocAttr, f1, f6, hz, ff_9]
            repeat (first | refine qqn rfl ?_ | ((first | (refine WK.rgn ?_ ?_; kernel_rfl) | refine AtCall.now ?_); simp (config := {maxSteps:=999999}) only [SS, qx0, forall_const, vun, simprocAttr, f1, f6, ff_9]) | refine qqj rfl ?_ | refine qqk rfl ?_)
            exact WK.retNil (bad _ _ _ rfl kp3)
          · simp (config := {maxSteps:=999999}) only [SS, qx0, forall_const, vun, simprocAttr, f1, f6, hz, ff_9]
            repeat (first | refine qqn rfl ?_ | ((first | (refine WK.rgn ?_ ?_; kernel_rfl) | refine AtCall.now ?_); simp (config := {maxSteps:=999999}) only [SS, qx0, forall_const, vun, simprocAttr, f1, f6, ff_9]) | refine qqj rfl ?_ | refine qqk rfl ?_)
            refine ih (g.vars.length - (j2 + 1)) (by omega) _ ⟨j2 + 1, kp3, f1, ?_, hjv, rfl, fun i hi => ?_⟩
            · simp only [packed, fset_apply, Nat.reduceEqDiff, ↓reduceIte, List.getD_cons_zero, List.getD_cons_succ, f6, ff_9]
              rw [wrap_in (by omega) (by omega)]; rfl
            · rcases Nat.lt_or_ge i j2 with h1 | h1
              · exact hcn i h1
              · have : i = j2 := by omega
                subst this; omega
        · repeat (first | refine qqn rfl ?_ | ((first | (refine WK.rgn ?_ ?_; kernel_rfl) | refine AtCall.now ?_); simp (config := {maxSteps:=999999}) only [SS, qx0, forall_const, vun, simprocAttr, f1, f6, hb2, gc_0, gc_1, gc_2, hjv, ff_9]) | refine qqj rfl ?_ | refine qqk rfl ?_)
          clear ih f6 hw2 hg2 hb2
          refine WK.loop (fun k s => ∃ j, Kp (n + 1) H' s.n s.H ∧ s.f 1 = .pointer (some ⟨n, 0, none⟩) ∧ s.f 7 = .int .i64 (j : Nat) ∧ j ≤ g.terms.length ∧ k = g.terms.length - j) g.terms.length ?_ ?_
          · exact ⟨0, kp, f1, rfl, Nat.zero_le _, rfl⟩
          rintro kk ⟨f, n2, H2⟩ ⟨j3, kp, f1, f7, hj3, rfl⟩ ih
          simp only at f1 f7 ih kp
          obtain ⟨hb2, hw2, hg2⟩ := kl kp
          by_cases hjt : j3 < g.terms.length
          · have hn := bnot_i64 (n := (j3 : Int)) (by omega) (by omega)
            repeat (first | refine qqn rfl ?_ | ((first | (refine WK.rgn ?_ ?_; kernel_rfl) | refine AtCall.now ?_); simp (config := {maxSteps:=999999}) only [SS, qx0, forall_const, vun, simprocAttr, f1, f7, hb2, gc_0, gc_1, gc_2, gc_len, gc_all, hjt, hn, ff_9]) | refine qqj rfl ?_ | refine qqk rfl ?_)
            refine AtCall.by (uses_gives hw2 hg2 wg) ?_
            rintro v n3 H3 hk3 rfl
            have kp3 := kp.trans hk3
            cases hu : usesR g.rules (-(j3 : Int) - 1)
            · simp (config := {maxSteps:=999999}) only [SS, qx0, forall_const, vun, simprocAttr, f1, f7, ff_9]
              repeat (first | refine qqn rfl ?_ | ((first | (refine WK.rgn ?_ ?_; kernel_rfl) | refine AtCall.now ?_); simp (config := {maxSteps:=999999}) only [SS, qx0, forall_const, vun, simprocAttr, f1, f7, ff_9]) | refine qqj rfl ?_ | refine qqk rfl ?_)
              exact WK.retNil (bad _ _ _ rfl kp3)
            · simp (config := {maxSteps:=999999}) only [SS, qx0, forall_const, vun, simprocAttr, f1, f7, ff_9]
              repeat (first | refine qqn rfl ?_ | ((first | (refine WK.rgn ?_ ?_; kernel_rfl) | refine AtCall.now ?_); simp (config := {maxSteps:=999999}) only [SS, qx0, forall_const, vun, simprocAttr, f1, f7, ff_9]) | refine qqj rfl ?_ | refine qqk rfl ?_)
              refine ih (g.terms.length - (j3 + 1)) (by omega) _ ⟨j3 + 1, kp3, f1, ?_, hjt, rfl⟩
              simp only [packed, fset_apply, Nat.reduceEqDiff, ↓reduceIte, List.getD_cons_zero, List.getD_cons_succ, f7, ff_9]
              rw [wrap_in (by omega) (by omega)]; rfl
          · repeat (first | refine qqn rfl ?_ | ((first | (refine WK.rgn ?_ ?_; kernel_rfl) | refine AtCall.now ?_); simp (config := {maxSteps:=999999}) only [SS, qx0, forall_const, vun, simprocAttr, f1, f7, hb2, gc_0, gc_1, gc_2, hjt, ff_9]) | refine qqj rfl ?_ | refine qqk rfl ?_)
            (first | refine WK.retNil ⟨Or.inr rfl, _, rfl, ?_, ?_⟩ | refine WK.skipNil ⟨Or.inl rfl, _, rfl, ?_, ?_⟩)
            · exact (hk.trans kp).keep
            · exact ⟨true, rfl, fun _ => ⟨by omega, by omega, by omega, by omega, fun i h => hru i h (by omega), fun v hv => hcn v (by omega)⟩⟩
end Go.Proofs.Ytemkglelfeidhaa

namespace Go.Proofs.Ytemkglelfeidhaa
open Go.AM
set_option maxRecDepth 100000
end Go.Proofs.Ytemkglelfeidhaa

namespace Go.Proofs.Ytemkglelfeidhaa
open Go.AM
set_option maxRecDepth 100000
end Go.Proofs.Ytemkglelfeidhaa

namespace Go.Proofs.Ytemkglelfeidhaa
open Go.AM
set_option maxRecDepth 100000
end Go.Proofs.Ytemkglelfeidhaa

namespace Go.Proofs.Ytemkglelfeidhaa
open Go.AM
set_option maxRecDepth 100000
def IL (n0 : Nat) (H : Heap) (r : Nat) (v : Value) (l : List Int) : Prop :=
  (v = .slice none 0 0 ∧ l = []) ∨ ∃ y cs, v = .slice (some ⟨y, 0, none⟩) l.length l.length ∧ H y = .cells cs 3 true ∧ cs.take l.length = l.map (Value.int .i64) ∧ n0 ≤ y ∧ y ≠ r
def rcells (pt pv pr : Option Addr) (g : Gram) (vd vl : Value) : List Value := [.slice pt g.terms.length g.terms.length, .slice pv g.vars.length g.vars.length, .slice pr g.rules.length g.rules.length, vd, vl]
def apart (vd vl : Value) : Prop := ∀ y z m k, vd = .slice (some ⟨y, 0, none⟩) m m → vl = .slice (some ⟨z, 0, none⟩) k k → y ≠ z
def Runs (n0 : Nat) (H : Heap) (r : Nat) (pt pv pr : Option Addr) (g : Gram) (done left : List Int) : Prop :=
  ∃ vd vl, H r = .cells (rcells pt pv pr g vd vl) 121 true ∧ IL n0 H r vd done ∧ IL n0 H r vl left ∧ apart vd vl
theorem IL.keep {n0 : Nat} {H H' : Heap} {r : Nat} {v : Value} {l : List Int} (h : IL n0 H r v l) (hk : ∀ y m, v = .slice (some ⟨y, 0, none⟩) m m → H y ≠ .dead → y ≠ r → H' y = H y) : IL n0 H' r v l := by
  rcases h with h | ⟨y, cs, e1, e2, e3, e4, e5⟩
  · exact .inl h
  · exact .inr ⟨y, cs, e1, by rw [hk y _ e1 (by rw [e2]; intro e; cases e) e5, e2], e3, e4, e5⟩
theorem IL.grown {n0 : Nat} {H' : Heap} {r y : Nat} {l : List Int} {s : Int} (hy : H' y = .cells (l.map (Value.int .i64) ++ [.int .i64 s]) 3 true) (hn : n0 ≤ y) (hr : y ≠ r) : IL n0 H' r (.slice (some ⟨y, 0, none⟩) (l.length + 1) (l.length + 1)) (l ++ [s]) := by
  refine .inr ⟨y, _, by rw [List.length_append]; rfl, hy, ?_, hn, hr⟩
  rw [List.map_append]
  exact List.take_of_length_le (by simp)
set_option maxHeartbeats 8000000 in
theorem lay_gives {n0 r : Nat} {pt pv pr p : Option Addr} {g : Gram} {done left form : List Int} {H0 H : Heap} {n : Nat} (hw0 : WF n0 H0) (k0 : Kp n0 H0 n H) (hr0 : n0 ≤ r) (hr : Runs n0 H r pt pv pr g done left) (hp : RA (Value.int .i64) H0 p form)
    (hd : ∀ s ∈ done, s < 0) (hsz : done.length + left.length + form.length ≤ 2147483648) :
    GivesX Try.prog (fun z => n0 ≤ z) 72 [.pointer (some ⟨r, 0, none⟩), .slice p form.length form.length] n H fun _ _ H' => Runs n0 H' r pt pv pr g (layS done (form ++ left.reverse)).1 (layS done (form ++ left.reverse)).2.reverse := by
  refine GivesX.of orders ok72 (Nat.le_of_ble_eq_true rfl) ?_
  have hlw : IntKind.i64.wrap ((form.length : Int) - 1) = (form.length : Int) - 1 := wrap_in (by omega) (by omega)
  repeat (first | refine qqn rfl ?_ | ((first | (refine WK.rgn ?_ ?_; kernel_rfl) | refine AtCall.now ?_); simp (config := {maxSteps:=999999}) only [SS, qx17, forall_const, vun, simprocAttr, hlw, ff_72]) | refine qqj rfl ?_ | refine qqk rfl ?_)
  refine WK.loop (fun k s => ∃ (j : Nat) (left1 : List Int), Kp n0 H0 s.n s.H ∧ s.f 0 = .pointer (some ⟨r, 0, none⟩) ∧ s.f 1 = .slice p form.length form.length ∧ Runs n0 s.H r pt pv pr g done left1 ∧ left1 = left ++ form.reverse.take j ∧ s.f 4 = .int .i64 ((form.length : Int) - 1 - j) ∧ j ≤ form.length ∧ k = form.length - j) form.length ?_ ?_
  · exact ⟨0, left, k0, rfl, rfl, hr, by simp, by show Value.int .i64 ((form.length : Int) - 1) = _; simp, Nat.zero_le _, rfl⟩
  have k00 := k0
  clear hr k0
  rintro kk ⟨f, n1, H1⟩ ⟨j, left1, kp, f0, f1, hr, hl1, f4, hj, rfl⟩ ih
  simp only at f0 f1 f4 ih kp hr
  have hw1 := kp.wf hw0
  obtain ⟨vd, vl, hro, hvd, hvl, hap⟩ := hr
  have hrl := live_lt hw1 (live_of hro)
  have hll1 : left1.length = left.length + j := by rw [hl1]; simp; omega
  by_cases hjl : j < form.length
  · have hge : (0 ≤ (form.length : Int) - 1 - j) = True := by simp; omega
    obtain ⟨i, hi⟩ : ∃ i : Nat, (form.length : Int) - 1 - j = i := ⟨form.length - 1 - j, by omega⟩
    have hil : i < form.length := by omega
    have hi0 : (0 ≤ (i : Int)) = True := by simp
    have hiw : IntKind.i64.wrap ((i : Int) - 1) = (form.length : Int) - 1 - ((j + 1 : Nat) : Int) := by rw [wrap_in (by omega) (by omega)]; omega
    rw [hi] at f4
    have hp1 := hp.mono hw0 kp
    obtain ⟨z, kz, ds, tz, oz, rfl, hz, ez⟩ := hp1.at hil
    have hrev : form.reverse.take (j + 1) = form.reverse.take j ++ [form[i]] := by
      rw [List.take_succ_eq_append_getElem (by simpa using hjl), List.getElem_reverse]
      congr 3
      omega
    have hr1 : ∀ o, hset H1 n1 o r = _ := fun o => (hset_ne _ _ _ (by omega)).trans hro
    have hzn : z ≠ n1 := by have := live_lt hw1 (live_of hz); omega
    have b1 : left1.length + 1 ≤ bigN := by unfold bigN; omega
    rcases hvl with ⟨rfl, hle⟩ | ⟨y, cs, rfl, hy, htk, hny, hyr⟩
    · have hr2 : ∀ o o2, hset (hset H1 n1 o) (n1 + 1) o2 r = _ := fun o o2 => (hset_ne _ _ _ (by omega)).trans ((hset_ne _ _ _ (by omega)).trans hro)
      have hrs : ∀ v, (rcells pt pv pr g vd (.slice none 0 0)).set 4 v = rcells pt pv pr g vd v := fun v => rfl
      have hr4 : (rcells pt pv pr g vd (.slice none 0 0))[4]? = some (.slice none 0 0) := rfl
      have hrlen : (rcells pt pv pr g vd (.slice none 0 0)).length = 5 := rfl
      repeat (first | refine qqn rfl ?_ | ((first | (refine WK.rgn ?_ ?_; kernel_rfl) | refine AtCall.now ?_); simp (config := {maxSteps:=999999}) only [SS, qx17, forall_const, vun, simprocAttr, f0, f1, f4, hi0, aop_nc, tnc, hro, hr4, hrlen, hz, ez, hil, ebs_26_1, hr2, hrs, ff_72]) | refine qqj rfl ?_ | refine qqk rfl ?_)
      refine ih (form.length - (j + 1)) (by omega) _ ⟨j + 1, left1 ++ [form[i]], ((kp.trans (Kp.new n1 H1 _)).trans (Kp.new (n1 + 1) _ _)).set _ hr0 (by omega), f0, f1, ⟨vd, .slice (some ⟨n1 + 1, 0, none⟩) 1 1, hset_at _ _ _, ?_, ?_, ?_⟩, by rw [hl1, hrev, List.append_assoc], ?_, hjl, rfl⟩
      · refine hvd.keep fun y m e hl hyr => ?_
        have := live_lt hw1 hl
        exact (hset_ne _ _ _ hyr).trans ((hset_ne _ _ _ (by omega)).trans (hset_ne _ _ _ (by omega)))
      · rw [hle]
        exact IL.grown (l := []) ((hset_ne _ _ _ (by omega)).trans (hset_at _ _ _)) (by have := kp.le; omega) (by omega)
      · intro y z' m k e1 e2
        simp only [Value.slice.injEq, Option.some.injEq, Addr.mk.injEq] at e2
        rcases hvd with ⟨h, _⟩ | ⟨y', cs', h, hy', _⟩
        · rw [h] at e1; simp at e1
        · rw [h] at e1
          simp only [Value.slice.injEq, Option.some.injEq, Addr.mk.injEq] at e1
          have := live_lt hw1 (live_of hy')
          omega
      · simp only [packed, fset_apply, Nat.reduceEqDiff, ↓reduceIte, List.getD_cons_zero, List.getD_cons_succ, hiw, ff_72]
    · have hlp : left1.length ≤ cs.length := by
        have := congrArg List.length htk
        rw [List.length_take, List.length_map] at this; omega
      have hyl := live_lt hw1 (live_of hy)
      have hy1 : ∀ o, hset H1 n1 o y = _ := fun o => (hset_ne _ _ _ (by omega)).trans hy
      have hct : [n1].contains y = false := by simp; omega
      have hr2 : ∀ o o2 o3, hset (hset (hset H1 n1 o) y o2) (n1 + 1) o3 r = _ := fun o o2 o3 => (hset_ne _ _ _ (by omega)).trans ((hset_ne _ _ _ (Ne.symm hyr)).trans ((hset_ne _ _ _ (by omega)).trans hro))
      have hrs : ∀ v, (rcells pt pv pr g vd (.slice (some ⟨y, 0, none⟩) left1.length left1.length)).set 4 v = rcells pt pv pr g vd v := fun v => rfl
      have hr4 : (rcells pt pv pr g vd (.slice (some ⟨y, 0, none⟩) left1.length left1.length))[4]? = some (.slice (some ⟨y, 0, none⟩) left1.length left1.length) := rfl
      have hrlen : (rcells pt pv pr g vd (.slice (some ⟨y, 0, none⟩) left1.length left1.length)).length = 5 := rfl
      repeat (first | refine qqn rfl ?_ | ((first | (refine WK.rgn ?_ ?_; kernel_rfl) | refine AtCall.now ?_); simp (config := {maxSteps:=999999}) only [SS, qx17, forall_const, vun, simprocAttr, f0, f1, f4, hi0, aop_nc, tnc, hro, hr4, hrlen, hz, ez, hil, ebs_26_1, hy1, hct, b1, hlp, htk, List.drop_zero, hr2, hrs, ff_72]) | refine qqj rfl ?_ | refine qqk rfl ?_)
      refine ih (form.length - (j + 1)) (by omega) _ ⟨j + 1, left1 ++ [form[i]], (((kp.trans (Kp.new n1 H1 _)).set _ hny (by omega)).trans (Kp.new (n1 + 1) _ _)).set _ hr0 (by omega), f0, f1, ⟨vd, .slice (some ⟨n1 + 1, 0, none⟩) (left1.length + 1) (left1.length + 1), hset_at _ _ _, ?_, ?_, ?_⟩, by rw [hl1, hrev, List.append_assoc], ?_, hjl, rfl⟩
      · refine hvd.keep fun w m e hl hwr => ?_
        have := live_lt hw1 hl
        have hne : w ≠ y := by
          have hm : m = done.length := by
            rcases hvd with ⟨h, _⟩ | ⟨y', cs', h, _⟩
            · rw [h] at e; simp at e
            · rw [h] at e; simp only [Value.slice.injEq] at e; exact e.2.1.symm
          exact hap w y m left1.length e rfl
        exact (hset_ne _ _ _ hwr).trans ((hset_ne _ _ _ (by omega)).trans ((hset_ne _ _ _ hne).trans (hset_ne _ _ _ (by omega))))
      · exact IL.grown ((hset_ne _ _ _ (by omega)).trans (hset_at _ _ _)) (by have := kp.le; omega) (by omega)
      · intro w z' m k e1 e2
        simp only [Value.slice.injEq, Option.some.injEq, Addr.mk.injEq] at e2
        rcases hvd with ⟨h, _⟩ | ⟨y', cs', h, hy', _⟩
        · rw [h] at e1; simp at e1
        · rw [h] at e1
          simp only [Value.slice.injEq, Option.some.injEq, Addr.mk.injEq] at e1
          have := live_lt hw1 (live_of hy')
          omega
      · simp only [packed, fset_apply, Nat.reduceEqDiff, ↓reduceIte, List.getD_cons_zero, List.getD_cons_succ, hiw, ff_72]
  · have hje : j = form.length := by omega
    subst hje
    have hlt : ((form.length : Int) - 1 - form.length) = -1 := by omega
    rw [hlt] at f4
    have hm1 : ((0 : Int) ≤ -1) = False := by simp
    repeat (first | refine qqn rfl ?_ | ((first | (refine WK.rgn ?_ ?_; kernel_rfl) | refine AtCall.now ?_); simp (config := {maxSteps:=999999}) only [SS, qx17, forall_const, vun, simprocAttr, f4, hm1, ff_72]) | refine qqj rfl ?_ | refine qqk rfl ?_)
    rw [List.take_of_length_le (by simp)] at hl1
    obtain ⟨Q, hQ⟩ : ∃ Q, form ++ left.reverse = Q := ⟨_, rfl⟩
    have hQl : Q.length = form.length + left.length := by rw [← hQ]; simp
    have hl1Q : left1 = Q.reverse := by rw [hl1, ← hQ]; simp
    rw [hQ]
    have hap' := hap
    refine WK.loop (fun k s => ∃ m, Kp n0 H0 s.n s.H ∧ s.f 0 = .pointer (some ⟨r, 0, none⟩) ∧ Runs n0 s.H r pt pv pr g (done ++ Q.take m) (Q.drop m).reverse ∧ m ≤ Q.length ∧ (∀ s ∈ Q.take m, s < 0) ∧ k = Q.length - m) Q.length ?_ ?_
    · exact ⟨0, kp, f0, ⟨vd, vl, hro, by simpa using hvd, by rw [List.drop_zero, ← hl1Q]; exact hvl, hap⟩, Nat.zero_le _, by simp, rfl⟩
    clear hap hap' hvl hvd hro hrl hll1 hl1 f0 f1 f4 kp hw1 ih hl1Q
    rintro kk ⟨f, n1, H1⟩ ⟨m, kp, f0, hr, hm, hneg, rfl⟩ ih
    simp only at f0 ih kp hr
    have hw1 := kp.wf hw0
    obtain ⟨vd, vl, hro, hvd, hvl, hap⟩ := hr
    have hrl := live_lt hw1 (live_of hro)
    have hr4 : (rcells pt pv pr g vd vl)[4]? = some vl := rfl
    have hr3 : (rcells pt pv pr g vd vl)[3]? = some vd := rfl
    have hrlen : ∀ a b, (rcells pt pv pr g a b).length = 5 := fun _ _ => rfl
    by_cases hml : m < Q.length
    · have hdrop : Q.drop m = Q[m] :: Q.drop (m + 1) := List.drop_eq_getElem_cons hml
      obtain ⟨s, hs⟩ : ∃ s, Q[m] = s := ⟨_, rfl⟩
      have hll : (Q.drop m).reverse = (Q.drop (m + 1)).reverse ++ [s] := by rw [hdrop, List.reverse_cons, hs]
      obtain ⟨L, hL⟩ : ∃ L, (Q.drop (m + 1)).reverse.length = L := ⟨_, rfl⟩
      have hLQ : L = Q.length - (m + 1) := by rw [← hL]; simp
      rw [hll] at hvl
      rcases hvl with ⟨_, h⟩ | ⟨y, cs, rfl, hy, htk, hny, hyr⟩
      · simp at h
      have hlen : ((Q.drop (m + 1)).reverse ++ [s]).length = L + 1 := by rw [List.length_append, hL]; rfl
      rw [hlen] at hr4 hr3 htk hap hro
      have hyl := live_lt hw1 (live_of hy)
      have hcs : cs[L]? = some (.int .i64 s) := by
        have h1 : (cs.take (L + 1))[L]? = some (.int .i64 s) := by
          rw [htk, List.map_append, List.getElem?_append_right (by rw [List.length_map, hL]; exact Nat.le_refl _), List.length_map, hL]
          simp
        rw [List.getElem?_take] at h1
        simpa using h1
      have hcl : L + 1 ≤ cs.length := by
        have := congrArg List.length htk
        rw [List.length_take, List.length_map, hlen] at this; omega
      have h0 : (0 : Int) < ((L + 1 : Nat) : Int) := by omega
      have hw0' : IntKind.i64.wrap (((L + 1 : Nat) : Int) - 1) = ((L : Nat) : Int) := by rw [wrap_in (by omega) (by omega)]; omega
      repeat (first | refine qqn rfl ?_ | ((first | (refine WK.rgn ?_ ?_; kernel_rfl) | refine AtCall.now ?_); simp (config := {maxSteps:=999999}) only [SS, qx17, forall_const, vun, simprocAttr, f0, aop_nc, tnc, hro, hr4, h0, hw0', hy, hcs, Nat.lt_succ_self, Nat.le_succ, ff_72]) | refine qqj rfl ?_ | refine qqk rfl ?_)
      refine AtCall.by (isVar_gives _ _ _) ?_
      rintro v n2 H2 hk2 ⟨rfl, rfl, rfl⟩
      by_cases hv : 0 ≤ s
      · simp (config := {maxSteps:=999999}) only [SS, qx17, forall_const, vun, simprocAttr, hv, ff_72]
        repeat (first | refine qqn rfl ?_ | ((first | (refine WK.rgn ?_ ?_; kernel_rfl) | refine AtCall.now ?_); simp (config := {maxSteps:=999999}) only [SS, qx17, forall_const, vun, simprocAttr, ff_72]) | refine qqj rfl ?_ | refine qqk rfl ?_)
        obtain ⟨e1, e2⟩ := tw_at hml hneg (by rw [hs]; exact hv)
        refine WK.skipNil ⟨Or.inl rfl, _, rfl, fun x _ hX => (kp.keep x (by omega)).trans (k00.keep x (by omega)).symm, vd, _, hro, ?_, ?_, hap⟩
        · unfold layS
          rw [e1]; exact hvd
        · unfold layS
          rw [e2, ← hdrop, hll]
          exact .inr ⟨y, cs, by rw [hlen], hy, by rw [hlen]; exact htk, hny, hyr⟩
      · simp (config := {maxSteps:=999999}) only [SS, qx17, forall_const, vun, simprocAttr, hv, ff_72]
        repeat (first | refine qqn rfl ?_)
        first | refine qqj rfl ?_ | refine qqk rfl ?_
        repeat (first | refine qqn rfl ?_)
        have hdl : (done ++ Q.take m).length = done.length + m := by rw [List.length_append, List.length_take, Nat.min_eq_left hm]
        have hneg' : ∀ t ∈ Q.take (m + 1), t < 0 := by
          intro t ht
          rw [List.take_succ_eq_append_getElem hml, List.mem_append] at ht
          rcases ht with ht | ht
          · exact hneg t ht
          · simp at ht; omega
        have htake : done ++ Q.take (m + 1) = (done ++ Q.take m) ++ [s] := by rw [List.take_succ_eq_append_getElem hml, hs, List.append_assoc]
        have hr5 : ∀ o, hset H2 n2 o r = _ := fun o => (hset_ne _ _ _ (by omega)).trans hro
        have hkeepL : ∀ (H' : Heap), H' y = H2 y → IL n0 H' r (.slice (some ⟨y, 0, none⟩) L L) (Q.drop (m + 1)).reverse := fun H' e => by
          refine .inr ⟨y, cs, by rw [hL], e.trans hy, ?_, hny, hyr⟩
          have h1 := congrArg (List.take L) htk
          rw [List.take_take, Nat.min_eq_left (Nat.le_succ _), List.map_append, List.take_left' (by rw [List.length_map, hL])] at h1
          rw [hL]; exact h1
        rcases hvd with ⟨rfl, hde⟩ | ⟨w, ds, rfl, hw', hwt, hnw, hwr⟩
        · have hr6 : ∀ o o2, hset (hset H2 n2 o) (n2 + 1) o2 r = _ := fun o o2 => (hset_ne _ _ _ (by omega)).trans ((hset_ne _ _ _ (by omega)).trans hro)
          have hrs : ∀ v b, (rcells pt pv pr g (.slice none 0 0) b).set 3 v = rcells pt pv pr g v b := fun v b => rfl
          have hrs4 : ∀ v a b, (rcells pt pv pr g a b).set 4 v = rcells pt pv pr g a v := fun v a b => rfl
          have hr44 : ∀ a b, (rcells pt pv pr g a b)[4]? = some b := fun a b => rfl
          have hy7 : ∀ o o2 o3, hset (hset (hset H2 n2 o) (n2 + 1) o2) r o3 y = _ := fun o o2 o3 => (hset_ne _ _ _ hyr).trans ((hset_ne _ _ _ (by omega)).trans ((hset_ne _ _ _ (by omega)).trans hy))
          repeat (first | refine qqn rfl ?_ | ((first | (refine WK.rgn ?_ ?_; kernel_rfl) | refine AtCall.now ?_); simp (config := {maxSteps:=999999}) only [SS, qx17, forall_const, vun, simprocAttr, f0, aop_nc, tnc, hro, hr3, hr44, hrlen, hw0', hy, hcs, Nat.lt_succ_self, Nat.le_succ, ebs_26_1, hr5, hr6, hrs, hrs4, hy7, isz_3, ff_72]) | refine qqj rfl ?_ | refine qqk rfl ?_)
          refine ih (Q.length - (m + 1)) (by omega) _ ⟨m + 1, ((kp.trans (Kp.new n2 H2 _)).trans (Kp.new (n2 + 1) _ _)).set _ hr0 (by omega), f0, ⟨_, _, hset_at _ _ _, ?_, hkeepL _ (hset_ne _ _ _ hyr |>.trans ((hset_ne _ _ _ (by omega)).trans (hset_ne _ _ _ (by omega)))), ?_⟩, hml, hneg', rfl⟩
          · rw [htake, hde]
            exact IL.grown (l := []) ((hset_ne _ _ _ (by omega)).trans (hset_at _ _ _)) (by have := kp.le; omega) (by omega)
          · intro a b i j e1 e2
            simp only [Value.slice.injEq, Option.some.injEq, Addr.mk.injEq] at e1 e2
            omega
        · rw [hdl] at hr3 hap hwt
          have hwl := live_lt hw1 (live_of hw')
          have hdc : done.length + m ≤ ds.length := by
            have := congrArg List.length hwt
            rw [List.length_take, List.length_map, hdl] at this; omega
          have hwy : w ≠ y := hap w y _ _ rfl rfl
          have hct : [n2].contains w = false := by simp; omega
          have hbg : done.length + m + 1 ≤ bigN := by unfold bigN; omega
          have hw5 : ∀ o, hset H2 n2 o w = _ := fun o => (hset_ne _ _ _ (by omega)).trans hw'
          have hr6 : ∀ o o2 o3, hset (hset (hset H2 n2 o) w o2) (n2 + 1) o3 r = _ := fun o o2 o3 => (hset_ne _ _ _ (by omega)).trans ((hset_ne _ _ _ (Ne.symm hwr)).trans ((hset_ne _ _ _ (by omega)).trans hro))
          have hrs : ∀ v a b, (rcells pt pv pr g a b).set 3 v = rcells pt pv pr g v b := fun v a b => rfl
          have hrs4 : ∀ v a b, (rcells pt pv pr g a b).set 4 v = rcells pt pv pr g a v := fun v a b => rfl
          have hr44 : ∀ a b, (rcells pt pv pr g a b)[4]? = some b := fun a b => rfl
          have hy7 : ∀ o o2 o3 o4, hset (hset (hset (hset H2 n2 o) w o2) (n2 + 1) o3) r o4 y = _ := fun o o2 o3 o4 => (hset_ne _ _ _ hyr).trans ((hset_ne _ _ _ (by omega)).trans ((hset_ne _ _ _ (Ne.symm hwy)).trans ((hset_ne _ _ _ (by omega)).trans hy)))
          rw [hdl] at hro hr6 hr5
          repeat (first | refine qqn rfl ?_ | ((first | (refine WK.rgn ?_ ?_; kernel_rfl) | refine AtCall.now ?_); simp (config := {maxSteps:=999999}) only [SS, qx17, forall_const, vun, simprocAttr, f0, aop_nc, tnc, hro, hr3, hr44, hrlen, hw0', hy, hcs, Nat.lt_succ_self, Nat.le_succ, ebs_26_1, hr5, hr6, hw5, hct, hbg, hdc, hwt, List.drop_zero, hrs, hrs4, hy7, isz_3, ff_72]) | refine qqj rfl ?_ | refine qqk rfl ?_)
          refine ih (Q.length - (m + 1)) (by omega) _ ⟨m + 1, (((kp.trans (Kp.new n2 H2 _)).set _ hnw (by omega)).trans (Kp.new (n2 + 1) _ _)).set _ hr0 (by omega), f0, ⟨_, _, hset_at _ _ _, ?_, hkeepL _ (hset_ne _ _ _ hyr |>.trans ((hset_ne _ _ _ (by omega)).trans ((hset_ne _ _ _ (Ne.symm hwy)).trans (hset_ne _ _ _ (by omega))))), ?_⟩, hml, hneg', rfl⟩
          · rw [htake, ← hdl]
            exact IL.grown ((hset_ne _ _ _ (by omega)).trans (hset_at _ _ _)) (by have := kp.le; omega) (by omega)
          · intro a b i j e1 e2
            simp only [Value.slice.injEq, Option.some.injEq, Addr.mk.injEq] at e1 e2
            omega
    · have hme : m = Q.length := by omega
      subst hme
      rw [List.take_length] at hneg hvd
      rw [List.drop_length, List.reverse_nil] at hvl
      obtain ⟨e1, e2⟩ := tw_all hneg
      have h00 : ((0 : Int) < ((0 : Nat) : Int)) = False := by simp
      have fin : ∀ f : Fr, FinX Try.prog (fun z => n0 ≤ z) Try.f72.results.toList n H (fun _ _ H' => Runs n0 H' r pt pv pr g (layS done Q).1 (layS done Q).2.reverse) .normal ⟨f, n1, H1⟩ := fun f =>
        ⟨Or.inl rfl, _, rfl, fun x _ hX => (kp.keep x (by omega)).trans (k00.keep x (by omega)).symm, vd, vl, hro, by unfold layS; rw [e1]; exact hvd, by unfold layS; rw [e2]; exact hvl, hap⟩
      rcases hvl with ⟨rfl, _⟩ | ⟨y, cs, rfl, _⟩
      · repeat (first | refine qqn rfl ?_ | ((first | (refine WK.rgn ?_ ?_; kernel_rfl) | refine AtCall.now ?_); simp (config := {maxSteps:=999999}) only [SS, qx17, forall_const, vun, simprocAttr, f0, aop_nc, tnc, hro, hr4, h00, ff_72]) | refine qqj rfl ?_ | refine qqk rfl ?_)
        exact WK.skipNil (fin _)
      · simp only [List.length_nil] at hr4 hro
        repeat (first | refine qqn rfl ?_ | ((first | (refine WK.rgn ?_ ?_; kernel_rfl) | refine AtCall.now ?_); simp (config := {maxSteps:=999999}) only [SS, qx17, forall_const, vun, simprocAttr, f0, aop_nc, tnc, hro, hr4, h00, ff_72]) | refine qqj rfl ?_ | refine qqk rfl ?_)
        exact WK.skipNil (fin _)
end Go.Proofs.Ytemkglelfeidhaa
