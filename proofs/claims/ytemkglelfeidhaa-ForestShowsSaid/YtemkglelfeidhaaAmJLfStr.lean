/- A part of a proof. Its conditions: none. -/
import Derived.Test.YtemkglelfeidhaaAmJLfLess
import Derived.Test.YtemkglelfeidhaaAmJFacts
import Derived.Test.YtemkglelfeidhaaAmC
import Derived.Test.YtemkglelfeidhaaAmD
set_option linter.all false
namespace Go.Proofs.Ytemkglelfeidhaa
open Go.AM
set_option maxRecDepth 100000
structure RuleOK (g : Gram) (i : Nat) (r : GRule) : Prop where
 left0 : 0 ≤ r.left
 left1 : r.left < g.vars.length
 len : r.right.length ≤ 24
 sym : ∀ s ∈ r.right, s < g.vars.length ∧ (s < 0 → -s - 1 < g.terms.length)
 up : ∀ q, i = q + 1 → ∀ r', g.rules[q]? = some r' → r'.left ≤ r.left
set_option maxHeartbeats 4000000 in
theorem rule_gives {v : Value} {g : Gram} {i : Nat} {n : Nat} {H : Heap} (hw : WF n H) (hg : RG H v g) (wg : WG g) (hi : i < g.rules.length) :
    Gives Try.prog 23 [v, .int .i64 i] n H fun v _ _ => ∃ t, v = .bool t ∧ (t = true → RuleOK g i g.rules[i]) := by
  obtain ⟨pt, pv, pr, rfl, ht, hv, hr⟩ := hg
  refine Gives.of orders ok23 (Nat.le_of_ble_eq_true rfl) ?_
  have hk := Kp.new n H (.cells (gcells pt pv pr g) 25 true)
  replace hr := hr.mono hw hk
  have hb := hset_at H n (.cells (gcells pt pv pr g) 25 true)
  repeat refine qqn rfl ?_
  (refine qqr ?_; simp only [SS, qx3, vun, simprocAttr, box_cells, box_one, ff_23])
  repeat refine qqn rfl ?_
  have hw1 := hk.wf hw
  generalize hset H n (.cells (gcells pt pv pr g) 25 true) = H1 at *
  obtain ⟨x, k, cs, ty, own, p, rfl, hx, c0, c1, c2, hp⟩ := hr.at hi
  have c3 := take3 c0 c1 c2
  have c4 := len3 c2
  (refine qqr ?_; simp only [SS, qx3, vun, simprocAttr, hb, gc_2, hi, hx, c3, c4, ff_23])
  repeat refine qqn rfl ?_
  obtain ⟨hrl, hri⟩ := wg.right _ (List.getElem_mem hi)
  have hll := wg.left _ (List.getElem_mem hi)
  have hww := wg.weight _ (List.getElem_mem hi)
  have hgl := wg.rules
  have hvl := wg.vars
  have htl := wg.terms
  unfold maxL at hrl hgl hvl htl
  unfold inI at hll
  have k2 := Kp.new (n + 1) H1 (.cells [.int .i64 g.rules[i].left, .slice p g.rules[i].right.length g.rules[i].right.length, .float .f64 g.rules[i].weight] 49 true)
  have ho := hset_at H1 (n + 1) (.cells [.int .i64 g.rules[i].left, .slice p g.rules[i].right.length g.rules[i].right.length, .float .f64 g.rules[i].weight] 49 true)
  replace hb := (k2.keep n (by omega)).trans hb
  replace hr := hr.mono hw1 k2
  replace hp := hp.mono hw1 k2
  replace hx : hset H1 (n + 1) (.cells [.int .i64 g.rules[i].left, .slice p g.rules[i].right.length g.rules[i].right.length, .float .f64 g.rules[i].weight] 49 true) x = .cells cs ty own :=
    (k2.keep x (by
      apply Classical.byContradiction
      intro hc
      rw [hw1 x (by omega)] at hx; cases hx)).trans hx
  replace hk : ∀ y, y < n → hset H1 (n + 1) (.cells [.int .i64 g.rules[i].left, .slice p g.rules[i].right.length g.rules[i].right.length, .float .f64 g.rules[i].weight] 49 true) y = H y :=
    fun y hy => (k2.keep y (by omega)).trans (hk.keep y hy)
  generalize hset H1 (n + 1) (.cells [.int .i64 g.rules[i].left, .slice p g.rules[i].right.length g.rules[i].right.length, .float .f64 g.rules[i].weight] 49 true) = H2 at *
  refine WK.unseq ?_
  refine WK.cutRet (fun s => s.n = n + 1 + 1 ∧ s.H = H2 ∧ s.f 1 = .int .i64 i ∧ s.f 2 = .pointer (some ⟨n, 0, none⟩) ∧ s.f 5 = .pointer (some ⟨n + 1, 0, none⟩) ∧ 0 ≤ g.rules[i].left ∧ g.rules[i].left < g.vars.length ∧ g.rules[i].right.length ≤ 24 ∧ (∀ q, i = q + 1 → ∀ r', g.rules[q]? = some r' → r'.left ≤ g.rules[i].left)) ?_ ?_
  · have bad : ∀ f : Fr, f 4 = .bool false → Fin Try.prog Try.f23.results.toList n H (fun v _ _ => ∃ t, v = .bool t ∧ (t = true → RuleOK g i g.rules[i])) .ret ⟨f, n + 1 + 1, H2⟩ :=
      fun f hf => ⟨Or.inr rfl, [f 4], rfl, hk, false, hf, fun h => by cases h⟩
    by_cases hA : g.rules[i].left < 0
    · repeat (first | refine qqm rfl ?_ | ((first | refine qqr ?_ | refine qqt ?_); simp only [SS, qx3, vun, simprocAttr, hb, ho, gc_1, gc_2, hA, ff_23]))
      exact WK.retNil (Or.inr ⟨rfl, bad _ rfl⟩)
    by_cases hB : (g.vars.length : Int) ≤ g.rules[i].left
    · repeat (first | refine qqm rfl ?_ | ((first | refine qqr ?_ | refine qqt ?_); simp only [SS, qx3, vun, simprocAttr, hb, ho, gc_1, gc_2, hA, hB, ff_23]))
      exact WK.retNil (Or.inr ⟨rfl, bad _ rfl⟩)
    by_cases hC : (0 : Int) < i
    · have hw' : IntKind.i64.wrap ((i : Int) - 1) = ((i - 1 : Nat) : Int) := by rw [wrap_in (by omega) (by omega)]; omega
      have hi' : i - 1 < g.rules.length := by omega
      obtain ⟨x', k', cs', ty', own', p', e', hx', d0, d1, d2, hp'⟩ := hr.at hi'
      cases e'
      rw [hx] at hx'
      cases hx'
      by_cases hD : g.rules[i].left < g.rules[i - 1].left
      · repeat (first | refine qqm rfl ?_ | ((first | refine qqr ?_ | refine qqt ?_); simp only [SS, qx3, vun, simprocAttr, hb, ho, hx, d0, gc_1, gc_2, hA, hB, hC, hw', hi', hD, ff_23]))
        exact WK.retNil (Or.inr ⟨rfl, bad _ rfl⟩)
      · by_cases hE : (24 : Int) < g.rules[i].right.length
        · repeat (first | refine qqm rfl ?_ | ((first | refine qqr ?_ | refine qqt ?_); simp only [SS, qx3, vun, simprocAttr, hb, ho, hx, d0, gc_1, gc_2, hA, hB, hC, hw', hi', hD, hE, ff_23]))
          exact WK.retNil (Or.inr ⟨rfl, bad _ rfl⟩)
        · repeat (first | refine qqm rfl ?_ | ((first | refine qqr ?_ | refine qqt ?_); simp only [SS, qx3, vun, simprocAttr, hb, ho, hx, d0, gc_1, gc_2, hA, hB, hC, hw', hi', hD, hE, ff_23]))
          refine AtCall.by (told_gives _ hww _ _) ?_
          rintro v n' H' hk' ⟨⟨t, rfl⟩, rfl, rfl⟩
          cases t
          · simp only [SS, qx3, vun, simprocAttr, ff_23]
            repeat (first | refine qqm rfl ?_ | ((first | refine qqr ?_ | refine qqt ?_); simp only [SS, qx3, vun, simprocAttr, ff_23]))
            exact WK.retNil (Or.inr ⟨rfl, bad _ rfl⟩)
          · simp only [SS, qx3, vun, simprocAttr, ff_23]
            repeat (first | refine qqm rfl ?_ | ((first | refine qqr ?_ | refine qqt ?_); simp only [SS, qx3, vun, simprocAttr, ff_23]))
            exact WK.skipNil (Or.inl ⟨rfl, rfl, rfl, rfl, rfl, rfl, by omega, by omega, by omega, fun q hq r' hr' => by
              subst hq
              have hD' : ¬ g.rules[q + 1].left < (g.rules[q]'(by omega)).left := hD
              rw [List.getElem?_eq_getElem (by omega)] at hr'
              cases hr'
              omega⟩)
    · by_cases hE : (24 : Int) < g.rules[i].right.length
      · repeat (first | refine qqm rfl ?_ | ((first | refine qqr ?_ | refine qqt ?_); simp only [SS, qx3, vun, simprocAttr, hb, ho, gc_1, gc_2, hA, hB, hC, hE, ff_23]))
        exact WK.retNil (Or.inr ⟨rfl, bad _ rfl⟩)
      · repeat (first | refine qqm rfl ?_ | ((first | refine qqr ?_ | refine qqt ?_); simp only [SS, qx3, vun, simprocAttr, hb, ho, gc_1, gc_2, hA, hB, hC, hE, ff_23]))
        refine AtCall.by (told_gives _ hww _ _) ?_
        rintro v n' H' hk' ⟨⟨t, rfl⟩, rfl, rfl⟩
        cases t
        · simp only [SS, qx3, vun, simprocAttr, ff_23]
          repeat (first | refine qqm rfl ?_ | ((first | refine qqr ?_ | refine qqt ?_); simp only [SS, qx3, vun, simprocAttr, ff_23]))
          exact WK.retNil (Or.inr ⟨rfl, bad _ rfl⟩)
        · simp only [SS, qx3, vun, simprocAttr, ff_23]
          repeat (first | refine qqm rfl ?_ | ((first | refine qqr ?_ | refine qqt ?_); simp only [SS, qx3, vun, simprocAttr, ff_23]))
          exact WK.skipNil (Or.inl ⟨rfl, rfl, rfl, rfl, rfl, rfl, by omega, by omega, by omega, fun q hq => by omega⟩)
  rintro ⟨f, n', H'⟩ ⟨rfl, rfl, f1, f2, f5, q1, q2, q3, q4⟩
  simp only at f1 f2 f5
  have bad : ∀ f : Fr, f 4 = .bool false → Fin Try.prog Try.f23.results.toList n H (fun v _ _ => ∃ t, v = .bool t ∧ (t = true → RuleOK g i g.rules[i])) .ret ⟨f, n + 1 + 1, H'⟩ :=
    fun f hf => ⟨Or.inr rfl, [f 4], rfl, hk, false, hf, fun h => by cases h⟩
  repeat (first | refine qqm rfl ?_ | ((first | refine qqr ?_ | refine qqt ?_); simp only [SS, qx3, vun, simprocAttr, f1, f2, f5, ff_23]))
  refine WK.loop (fun k s => ∃ j, s.n = n + 1 + 1 ∧ s.H = H' ∧ s.f 1 = .int .i64 i ∧ s.f 2 = .pointer (some ⟨n, 0, none⟩) ∧ s.f 5 = .pointer (some ⟨n + 1, 0, none⟩) ∧ s.f 6 = .int .i64 (j : Nat) ∧ j ≤ g.rules[i].right.length ∧ k = g.rules[i].right.length - j ∧
    ∀ s ∈ g.rules[i].right.take j, s < g.vars.length ∧ (s < 0 → -s - 1 < g.terms.length)) g.rules[i].right.length ?_ ?_
  · exact ⟨0, rfl, rfl, f1, f2, f5, rfl, Nat.zero_le _, rfl, by simp⟩
  rintro kk ⟨f', n', H'⟩ ⟨j, rfl, rfl, f1, f2, f5, f6, hj, rfl, hsym⟩ ih
  simp only at f1 f2 f5 f6 ih hb ho hr hp hx hk bad
  by_cases hjr : j < g.rules[i].right.length
  · obtain ⟨z, kz, ds, tz, oz, rfl, hz, e⟩ := hp.at hjr
    have hsr := hri _ (List.getElem_mem hjr)
    unfold inI at hsr
    have htj : g.rules[i].right.take (j + 1) = g.rules[i].right.take j ++ [g.rules[i].right[j]] := List.take_succ_eq_append_getElem hjr
    have hn := bnot_i64 hsr.1 hsr.2
    by_cases hA : (g.vars.length : Int) ≤ g.rules[i].right[j]
    · repeat (first | refine qqm rfl ?_ | ((first | refine qqr ?_ | refine qqt ?_); simp only [SS, qx3, vun, simprocAttr, f1, f2, f5, f6, hb, ho, gc_0, gc_1, gc_2, hjr, hz, e, hA, ff_23]))
      exact WK.retNil (bad _ rfl)
    by_cases hB : g.rules[i].right[j] < 0
    · by_cases hC : (g.terms.length : Int) ≤ -g.rules[i].right[j] - 1
      · repeat (first | refine qqm rfl ?_ | ((first | refine qqr ?_ | refine qqt ?_); simp only [SS, qx3, vun, simprocAttr, f1, f2, f5, f6, hb, ho, gc_0, gc_1, gc_2, hjr, hz, e, hA, hB, hn, hC, ff_23]))
        exact WK.retNil (bad _ rfl)
      · repeat (first | refine qqm rfl ?_ | ((first | refine qqr ?_ | refine qqt ?_); simp only [SS, qx3, vun, simprocAttr, f1, f2, f5, f6, hb, ho, gc_0, gc_1, gc_2, hjr, hz, e, hA, hB, hn, hC, ff_23]))
        refine ih (g.rules[i].right.length - (j + 1)) (by omega) _ ⟨j + 1, rfl, rfl, f1, f2, f5, ?_, hjr, rfl, ?_⟩
        · simp only [packed, fset_apply, Nat.reduceEqDiff, ↓reduceIte, List.getD_cons_zero, List.getD_cons_succ, f6, ff_23]
          rw [wrap_in (by omega) (by omega)]; rfl
        · intro s hs
          rw [htj, List.mem_append] at hs
          rcases hs with hs | hs
          · exact hsym s hs
          · simp at hs; subst hs; exact ⟨by omega, fun _ => by omega⟩
    · repeat (first | refine qqm rfl ?_ | ((first | refine qqr ?_ | refine qqt ?_); simp only [SS, qx3, vun, simprocAttr, f1, f2, f5, f6, hb, ho, gc_0, gc_1, gc_2, hjr, hz, e, hA, hB, ff_23]))
      refine ih (g.rules[i].right.length - (j + 1)) (by omega) _ ⟨j + 1, rfl, rfl, f1, f2, f5, ?_, hjr, rfl, ?_⟩
      · simp only [packed, fset_apply, Nat.reduceEqDiff, ↓reduceIte, List.getD_cons_zero, List.getD_cons_succ, f6, ff_23]
        rw [wrap_in (by omega) (by omega)]; rfl
      · intro s hs
        rw [htj, List.mem_append] at hs
        rcases hs with hs | hs
        · exact hsym s hs
        · simp at hs; subst hs; exact ⟨by omega, fun _ => by omega⟩
  · repeat (first | refine qqm rfl ?_ | ((first | refine qqr ?_ | refine qqt ?_); simp only [SS, qx3, vun, simprocAttr, f1, f2, f5, f6, hb, ho, gc_0, gc_1, gc_2, hjr, ff_23]))
    rw [List.take_of_length_le (by omega)] at hsym
    refine WK.loop (fun k s => ∃ j, s.n = n + 1 + 1 ∧ s.H = H' ∧ s.f 1 = .int .i64 i ∧ s.f 2 = .pointer (some ⟨n, 0, none⟩) ∧ s.f 5 = .pointer (some ⟨n + 1, 0, none⟩) ∧ s.f 8 = .int .i64 (j : Nat) ∧ j ≤ i ∧ k = i - j) i ?_ ?_
    · exact ⟨0, rfl, rfl, f1, f2, f5, rfl, Nat.zero_le _, rfl⟩
    rintro kk ⟨f', n', H'⟩ ⟨j, rfl, rfl, f1, f2, f5, f8, hj, rfl⟩ ih
    simp only at f1 f2 f5 f8 ih hb ho hr hp hx hk bad
    by_cases hjr : j < i
    · obtain ⟨x', k', cs', ty', own', p', e', hx', d0, d1, d2, hp'⟩ := hr.at (i := j) (by omega)
      cases e'
      rw [hx] at hx'
      cases hx'
      have hjl : j < g.rules.length := by omega
      obtain ⟨hrl', _⟩ := wg.right _ (List.getElem_mem hjl)
      by_cases hA : g.rules[j].left = g.rules[i].left
      · repeat (first | refine qqm rfl ?_ | ((first | refine qqr ?_ | refine qqt ?_); simp only [SS, qx3, vun, simprocAttr, f1, f2, f5, f8, hb, ho, hx, gc_2, hjr, hjl, d0, d1, hA, ff_23]))
        refine AtCall.by (same_gives hp' hp hrl' (by unfold maxL; omega)) ?_
        rintro v n' H' hk' ⟨rfl, rfl, rfl⟩
        cases hS : same g.rules[j].right g.rules[i].right
        · simp only [SS, qx3, vun, simprocAttr, ff_23]
          repeat (first | refine qqm rfl ?_ | ((first | refine qqr ?_ | refine qqt ?_); simp only [SS, qx3, vun, simprocAttr, f1, f2, f5, f8, ff_23]))
          refine ih (i - (j + 1)) (by omega) _ ⟨j + 1, rfl, rfl, f1, f2, f5, ?_, hjr, rfl⟩
          simp only [packed, fset_apply, Nat.reduceEqDiff, ↓reduceIte, List.getD_cons_zero, List.getD_cons_succ, f8, ff_23]
          rw [wrap_in (by omega) (by omega)]; rfl
        · simp only [SS, qx3, vun, simprocAttr, ff_23]
          repeat (first | refine qqm rfl ?_ | ((first | refine qqr ?_ | refine qqt ?_); simp only [SS, qx3, vun, simprocAttr, ff_23]))
          exact WK.retNil (bad _ rfl)
      · repeat (first | refine qqm rfl ?_ | ((first | refine qqr ?_ | refine qqt ?_); simp only [SS, qx3, vun, simprocAttr, f1, f2, f5, f8, hb, ho, hx, gc_2, hjr, hjl, d0, d1, hA, ff_23]))
        refine ih (i - (j + 1)) (by omega) _ ⟨j + 1, rfl, rfl, f1, f2, f5, ?_, hjr, rfl⟩
        simp only [packed, fset_apply, Nat.reduceEqDiff, ↓reduceIte, List.getD_cons_zero, List.getD_cons_succ, f8, ff_23]
        rw [wrap_in (by omega) (by omega)]; rfl
    · repeat (first | refine qqm rfl ?_ | ((first | refine qqr ?_ | refine qqt ?_); simp only [SS, qx3, vun, simprocAttr, f1, f2, f5, f8, hjr, ff_23]))
      (first | refine WK.retNil ⟨Or.inr rfl, _, rfl, ?_, ?_⟩ | refine WK.skipNil ⟨Or.inl rfl, _, rfl, ?_, ?_⟩)
      · exact hk
      · exact ⟨true, rfl, fun _ => ⟨q1, q2, q3, hsym, q4⟩⟩
end Go.Proofs.Ytemkglelfeidhaa

namespace Go.Proofs.Ytemkglelfeidhaa
open Go.AM
set_option maxRecDepth 100000
def letter (x : Int) : Bool := decide (97 ≤ x) && decide (x ≤ 122) || decide (65 ≤ x) && decide (x ≤ 90)
def digit (x : Int) : Bool := decide (48 ≤ x) && decide (x ≤ 57)
def inner (x : Int) : Bool := letter x || digit x || decide (x = 95)
def quotable (x : Int) : Bool := decide (32 ≤ x) && decide (x ≤ 126) && !decide (x = 39)
theorem letter_gives (x : Int) (n : Nat) (H : Heap) : Gives Try.prog 45 [.int .u8 x] n H fun v n' H' => v = .bool (letter x) ∧ n' = n ∧ H' = H := by
 refine Gives.of orders ok45 (Nat.le_of_ble_eq_true rfl) ?_
 by_cases h1 : 97 ≤ x
 ·by_cases h2 : x ≤ 122
  ·repeat (first | refine qqm rfl ?_ | ((first | refine qqr ?_ | refine qqt ?_); simp only [SS, qx2, simprocAttr, h1, h2]))
   (first | refine WK.retNil ⟨Or.inr rfl, _, rfl, ?_, ?_⟩ | refine WK.skipNil ⟨Or.inl rfl, _, rfl, ?_, ?_⟩)
   ·exact fun _ _ => rfl
   ·simp only [packed, fset_apply, Nat.reduceEqDiff, ↓reduceIte, List.getD_cons_zero, List.getD_cons_succ, letter, h1, h2]
    simp
  ·by_cases h3 : 65 ≤ x
   ·by_cases h4 : x ≤ 90
    ·omega
    ·repeat (first | refine qqm rfl ?_ | ((first | refine qqr ?_ | refine qqt ?_); simp only [SS, qx2, simprocAttr, h1, h2, h3, h4]))
     (first | refine WK.retNil ⟨Or.inr rfl, _, rfl, ?_, ?_⟩ | refine WK.skipNil ⟨Or.inl rfl, _, rfl, ?_, ?_⟩)
     ·exact fun _ _ => rfl
     ·simp only [packed, fset_apply, Nat.reduceEqDiff, ↓reduceIte, List.getD_cons_zero, List.getD_cons_succ, letter, h1, h2, h3, h4]
      simp
   ·omega
 ·by_cases h3 : 65 ≤ x
  ·by_cases h4 : x ≤ 90
   ·repeat (first | refine qqm rfl ?_ | ((first | refine qqr ?_ | refine qqt ?_); simp only [SS, qx2, simprocAttr, h1, h3, h4]))
    (first | refine WK.retNil ⟨Or.inr rfl, _, rfl, ?_, ?_⟩ | refine WK.skipNil ⟨Or.inl rfl, _, rfl, ?_, ?_⟩)
    ·exact fun _ _ => rfl
    ·simp only [packed, fset_apply, Nat.reduceEqDiff, ↓reduceIte, List.getD_cons_zero, List.getD_cons_succ, letter, h1, h3, h4]
     simp
   ·repeat (first | refine qqm rfl ?_ | ((first | refine qqr ?_ | refine qqt ?_); simp only [SS, qx2, simprocAttr, h1, h3, h4]))
    (first | refine WK.retNil ⟨Or.inr rfl, _, rfl, ?_, ?_⟩ | refine WK.skipNil ⟨Or.inl rfl, _, rfl, ?_, ?_⟩)
    ·exact fun _ _ => rfl
    ·simp only [packed, fset_apply, Nat.reduceEqDiff, ↓reduceIte, List.getD_cons_zero, List.getD_cons_succ, letter, h1, h3, h4]
     simp
  ·repeat (first | refine qqm rfl ?_ | ((first | refine qqr ?_ | refine qqt ?_); simp only [SS, qx2, simprocAttr, h1, h3]))
   (first | refine WK.retNil ⟨Or.inr rfl, _, rfl, ?_, ?_⟩ | refine WK.skipNil ⟨Or.inl rfl, _, rfl, ?_, ?_⟩)
   ·exact fun _ _ => rfl
   ·simp only [packed, fset_apply, Nat.reduceEqDiff, ↓reduceIte, List.getD_cons_zero, List.getD_cons_succ, letter, h1, h3]
    simp
theorem digit_gives (x : Int) (n : Nat) (H : Heap) : Gives Try.prog 68 [.int .u8 x] n H fun v n' H' => v = .bool (digit x) ∧ n' = n ∧ H' = H := by
 refine Gives.of orders ok68 (Nat.le_of_ble_eq_true rfl) ?_
 by_cases h1 : 48 ≤ x
 ·by_cases h2 : x ≤ 57
  ·repeat (first | refine qqm rfl ?_ | ((first | refine qqr ?_ | refine qqt ?_); simp only [SS, qx2, simprocAttr, h1, h2]))
   (first | refine WK.retNil ⟨Or.inr rfl, _, rfl, ?_, ?_⟩ | refine WK.skipNil ⟨Or.inl rfl, _, rfl, ?_, ?_⟩)
   ·exact fun _ _ => rfl
   ·simp only [packed, fset_apply, Nat.reduceEqDiff, ↓reduceIte, List.getD_cons_zero, List.getD_cons_succ, digit, h1, h2]
    simp
  ·repeat (first | refine qqm rfl ?_ | ((first | refine qqr ?_ | refine qqt ?_); simp only [SS, qx2, simprocAttr, h1, h2]))
   (first | refine WK.retNil ⟨Or.inr rfl, _, rfl, ?_, ?_⟩ | refine WK.skipNil ⟨Or.inl rfl, _, rfl, ?_, ?_⟩)
   ·exact fun _ _ => rfl
   ·simp only [packed, fset_apply, Nat.reduceEqDiff, ↓reduceIte, List.getD_cons_zero, List.getD_cons_succ, digit, h1, h2]
    simp
 ·repeat (first | refine qqm rfl ?_ | ((first | refine qqr ?_ | refine qqt ?_); simp only [SS, qx2, simprocAttr, h1]))
  (first | refine WK.retNil ⟨Or.inr rfl, _, rfl, ?_, ?_⟩ | refine WK.skipNil ⟨Or.inl rfl, _, rfl, ?_, ?_⟩)
  ·exact fun _ _ => rfl
  ·simp only [packed, fset_apply, Nat.reduceEqDiff, ↓reduceIte, List.getD_cons_zero, List.getD_cons_succ, digit, h1]
   simp
theorem quotable_gives (x : Int) (n : Nat) (H : Heap) : Gives Try.prog 47 [.int .u8 x] n H fun v n' H' => v = .bool (quotable x) ∧ n' = n ∧ H' = H := by
 refine Gives.of orders ok47 (Nat.le_of_ble_eq_true rfl) ?_
 by_cases h1 : 32 ≤ x
 ·by_cases h2 : x ≤ 126
  ·repeat (first | refine qqm rfl ?_ | ((first | refine qqr ?_ | refine qqt ?_); simp only [SS, qx2, simprocAttr, h1, h2, ff_47]))
   (first | refine WK.retNil ⟨Or.inr rfl, _, rfl, ?_, ?_⟩ | refine WK.skipNil ⟨Or.inl rfl, _, rfl, ?_, ?_⟩)
   ·exact fun _ _ => rfl
   ·simp only [packed, fset_apply, Nat.reduceEqDiff, ↓reduceIte, List.getD_cons_zero, List.getD_cons_succ, quotable, h1, h2, ff_47]
    simp
  ·repeat (first | refine qqm rfl ?_ | ((first | refine qqr ?_ | refine qqt ?_); simp only [SS, qx2, simprocAttr, h1, h2, ff_47]))
   (first | refine WK.retNil ⟨Or.inr rfl, _, rfl, ?_, ?_⟩ | refine WK.skipNil ⟨Or.inl rfl, _, rfl, ?_, ?_⟩)
   ·exact fun _ _ => rfl
   ·simp only [packed, fset_apply, Nat.reduceEqDiff, ↓reduceIte, List.getD_cons_zero, List.getD_cons_succ, quotable, h1, h2, ff_47]
    simp
 ·repeat (first | refine qqm rfl ?_ | ((first | refine qqr ?_ | refine qqt ?_); simp only [SS, qx2, simprocAttr, h1, ff_47]))
  (first | refine WK.retNil ⟨Or.inr rfl, _, rfl, ?_, ?_⟩ | refine WK.skipNil ⟨Or.inl rfl, _, rfl, ?_, ?_⟩)
  ·exact fun _ _ => rfl
  ·simp only [packed, fset_apply, Nat.reduceEqDiff, ↓reduceIte, List.getD_cons_zero, List.getD_cons_succ, quotable, h1, ff_47]
   simp
theorem inner_gives (x : Int) (n : Nat) (H : Heap) : Gives Try.prog 46 [.int .u8 x] n H fun v n' H' => v = .bool (inner x) ∧ n' = n ∧ H' = H := by
 refine Gives.of orders ok46 (Nat.le_of_ble_eq_true rfl) ?_
 repeat (first | refine qqm rfl ?_ | ((first | refine qqr ?_ | refine qqt ?_); simp only [SS, qx2, simprocAttr, ff_46]))
 refine AtCall.by (letter_gives x n H) ?_
 rintro v n' H' hk ⟨rfl, rfl, rfl⟩
 by_cases h1 : letter x = true
 ·simp only [SS, qx2, simprocAttr, h1, ff_46]
  repeat (first | refine qqm rfl ?_ | ((first | refine qqr ?_ | refine qqt ?_); simp only [SS, qx2, simprocAttr, h1, ff_46]))
  (first | refine WK.retNil ⟨Or.inr rfl, _, rfl, ?_, ?_⟩ | refine WK.skipNil ⟨Or.inl rfl, _, rfl, ?_, ?_⟩)
  ·exact fun _ _ => rfl
  ·simp only [packed, fset_apply, Nat.reduceEqDiff, ↓reduceIte, List.getD_cons_zero, List.getD_cons_succ, inner, h1, ff_46]
   simp
 ·have h1 : letter x = false := by simpa using h1
  simp only [SS, qx2, simprocAttr, h1, ff_46]
  refine AtCall.by (digit_gives x _ _) ?_
  rintro v n' H' hk ⟨rfl, rfl, rfl⟩
  by_cases h2 : digit x = true
  ·simp only [SS, qx2, simprocAttr, h1, h2, ff_46]
   repeat (first | refine qqm rfl ?_ | ((first | refine qqr ?_ | refine qqt ?_); simp only [SS, qx2, simprocAttr, h1, h2, ff_46]))
   (first | refine WK.retNil ⟨Or.inr rfl, _, rfl, ?_, ?_⟩ | refine WK.skipNil ⟨Or.inl rfl, _, rfl, ?_, ?_⟩)
   ·exact fun _ _ => rfl
   ·simp only [packed, fset_apply, Nat.reduceEqDiff, ↓reduceIte, List.getD_cons_zero, List.getD_cons_succ, inner, h1, h2, ff_46]
    simp
  ·have h2 : digit x = false := by simpa using h2
   simp only [SS, qx2, simprocAttr, h1, h2, ff_46]
   repeat (first | refine qqm rfl ?_ | ((first | refine qqr ?_ | refine qqt ?_); simp only [SS, qx2, simprocAttr, h1, h2, ff_46]))
   (first | refine WK.retNil ⟨Or.inr rfl, _, rfl, ?_, ?_⟩ | refine WK.skipNil ⟨Or.inl rfl, _, rfl, ?_, ?_⟩)
   ·exact fun _ _ => rfl
   ·simp only [packed, fset_apply, Nat.reduceEqDiff, ↓reduceIte, List.getD_cons_zero, List.getD_cons_succ, inner, h1, h2, ff_46]
    simp
end Go.Proofs.Ytemkglelfeidhaa

namespace Go.Proofs.Ytemkglelfeidhaa
open Go.AM
set_option maxRecDepth 100000
theorem bget {s : ByteArray} {i : Nat} (h : i < s.size) : s[i]? = some s[i] := getElem?_pos s i h
theorem isName_gives (s : ByteArray) (n : Nat) (H : Heap) : Gives Try.prog 20 [.string s] n H fun v n' H' => (∃ b, v = .bool b) ∧ n' = n ∧ H' = H := by
 refine Gives.of orders ok20 (Nat.le_of_ble_eq_true rfl) ?_
 by_cases h1 : (s.size : Int) < 1
 ·repeat (first | refine qqm rfl ?_ | ((first | refine qqr ?_ | refine qqt ?_); simp only [SS, qx10, vun, simprocAttr, h1, ff_20]))
  (first | refine WK.retNil ⟨Or.inr rfl, _, rfl, ?_, ?_⟩ | refine WK.skipNil ⟨Or.inl rfl, _, rfl, ?_, ?_⟩)
  ·exact fun _ _ => rfl
  ·simp only [packed, fset_apply, Nat.reduceEqDiff, ↓reduceIte, List.getD_cons_zero, List.getD_cons_succ, ff_20]
   simp
 by_cases h2 : (24 : Int) < s.size
 ·repeat (first | refine qqm rfl ?_ | ((first | refine qqr ?_ | refine qqt ?_); simp only [SS, qx10, vun, simprocAttr, h1, h2, ff_20]))
  (first | refine WK.retNil ⟨Or.inr rfl, _, rfl, ?_, ?_⟩ | refine WK.skipNil ⟨Or.inl rfl, _, rfl, ?_, ?_⟩)
  ·exact fun _ _ => rfl
  ·simp only [packed, fset_apply, Nat.reduceEqDiff, ↓reduceIte, List.getD_cons_zero, List.getD_cons_succ, ff_20]
   simp
 have e0 : s[0]? = some s[0] := bget (by omega)
 repeat (first | refine qqm rfl ?_ | ((first | refine qqr ?_ | refine qqt ?_); simp only [SS, qx10, vun, simprocAttr, h1, h2, e0, ff_20]))
 refine AtCall.by (letter_gives _ n H) ?_
 rintro v n' H' hk ⟨rfl, rfl, rfl⟩
 cases h3 : letter s[0].toNat
 ·simp only [SS, qx10, vun, simprocAttr, h1, h2, ff_20]
  repeat (first | refine qqm rfl ?_ | ((first | refine qqr ?_ | refine qqt ?_); simp only [SS, qx10, vun, simprocAttr, h1, h2, ff_20]))
  (first | refine WK.retNil ⟨Or.inr rfl, _, rfl, ?_, ?_⟩ | refine WK.skipNil ⟨Or.inl rfl, _, rfl, ?_, ?_⟩)
  ·exact fun _ _ => rfl
  ·simp only [packed, fset_apply, Nat.reduceEqDiff, ↓reduceIte, List.getD_cons_zero, List.getD_cons_succ, ff_20]
   simp
 simp only [SS, qx10, vun, simprocAttr, h1, h2, ff_20]
 repeat (first | refine qqm rfl ?_ | ((first | refine qqr ?_ | refine qqt ?_); simp only [SS, qx10, vun, simprocAttr, h1, h2, ff_20]))
 refine WK.loop (fun k s' => ∃ i, s'.n = n' ∧ s'.H = H' ∧ s'.f 0 = .string s ∧ s'.f 3 = .int .i64 (i : Nat) ∧ i ≤ s.size ∧ k = s.size - i) s.size ?_ ?_
 ·exact ⟨0, rfl, rfl, rfl, rfl, Nat.zero_le _, rfl⟩
 rintro k ⟨f, n', H'⟩ ⟨i, rfl, rfl, f0, f3, hi, rfl⟩ ih
 simp only at f0 f3 ih
 by_cases hi : i < s.size
 ·have ei : s[i]? = some s[i] := bget hi
  repeat (first | refine qqm rfl ?_ | ((first | refine qqr ?_ | refine qqt ?_); simp only [SS, qx10, vun, simprocAttr, f0, f3, hi, ei, ff_20]))
  refine AtCall.by (inner_gives _ _ _) ?_
  rintro v n' H' hk ⟨rfl, rfl, rfl⟩
  cases h4 : inner s[i].toNat
  ·simp only [SS, qx10, vun, simprocAttr, f0, f3, ff_20]
   repeat (first | refine qqm rfl ?_ | ((first | refine qqr ?_ | refine qqt ?_); simp only [SS, qx10, vun, simprocAttr, f0, f3, ff_20]))
   (first | refine WK.retNil ⟨Or.inr rfl, _, rfl, ?_, ?_⟩ | refine WK.skipNil ⟨Or.inl rfl, _, rfl, ?_, ?_⟩)
   ·exact fun _ _ => rfl
   ·simp only [packed, fset_apply, Nat.reduceEqDiff, ↓reduceIte, List.getD_cons_zero, List.getD_cons_succ, ff_20]
    simp
  ·simp only [SS, qx10, vun, simprocAttr, f0, f3, ff_20]
   repeat (first | refine qqm rfl ?_ | ((first | refine qqr ?_ | refine qqt ?_); simp only [SS, qx10, vun, simprocAttr, f0, f3, ff_20]))
   refine ih (s.size - (i + 1)) (by omega) _ ⟨i + 1, rfl, rfl, f0, ?_, hi, rfl⟩
   simp only [packed, fset_apply, Nat.reduceEqDiff, ↓reduceIte, List.getD_cons_zero, List.getD_cons_succ, ff_20]
   rw [wrap_in (by omega) (by omega)]; rfl
 ·repeat (first | refine qqm rfl ?_ | ((first | refine qqr ?_ | refine qqt ?_); simp only [SS, qx10, vun, simprocAttr, f0, f3, hi, ff_20]))
  (first | refine WK.retNil ⟨Or.inr rfl, _, rfl, ?_, ?_⟩ | refine WK.skipNil ⟨Or.inl rfl, _, rfl, ?_, ?_⟩)
  ·exact fun _ _ => rfl
  ·simp only [packed, fset_apply, Nat.reduceEqDiff, ↓reduceIte, List.getD_cons_zero, List.getD_cons_succ, ff_20]
   simp
theorem isQuote_gives (s : ByteArray) (hs : s.size ≤ maxL) (n : Nat) (H : Heap) : Gives Try.prog 22 [.string s] n H fun v n' H' => (∃ b, v = .bool b) ∧ n' = n ∧ H' = H := by
 refine Gives.of orders ok22 (Nat.le_of_ble_eq_true rfl) ?_
 repeat (first | refine qqm rfl ?_ | ((first | refine qqr ?_ | refine qqt ?_); simp only [SS, qx10, vun, simprocAttr, ff_22]))
 refine WK.loop (fun k s' => ∃ i, s'.n = n ∧ s'.H = H ∧ s'.f 0 = .string s ∧ s'.f 3 = .int .i64 (i : Nat) ∧ i ≤ s.size ∧ k = s.size - i) s.size ?_ ?_
 ·exact ⟨0, rfl, rfl, rfl, rfl, Nat.zero_le _, rfl⟩
 rintro k ⟨f, n', H'⟩ ⟨i, rfl, rfl, f0, f3, hi, rfl⟩ ih
 simp only at f0 f3 ih
 by_cases hi : i < s.size
 ·have ei : s[i]? = some s[i] := bget hi
  repeat (first | refine qqm rfl ?_ | ((first | refine qqr ?_ | refine qqt ?_); simp only [SS, qx10, vun, simprocAttr, f0, f3, hi, ei, ff_22]))
  refine AtCall.by (quotable_gives _ _ _) ?_
  rintro v n' H' hk ⟨rfl, rfl, rfl⟩
  cases h4 : quotable s[i].toNat
  ·simp only [SS, qx10, vun, simprocAttr, f0, f3, ff_22]
   repeat (first | refine qqm rfl ?_ | ((first | refine qqr ?_ | refine qqt ?_); simp only [SS, qx10, vun, simprocAttr, f0, f3, ff_22]))
   (first | refine WK.retNil ⟨Or.inr rfl, _, rfl, ?_, ?_⟩ | refine WK.skipNil ⟨Or.inl rfl, _, rfl, ?_, ?_⟩)
   ·exact fun _ _ => rfl
   ·simp only [packed, fset_apply, Nat.reduceEqDiff, ↓reduceIte, List.getD_cons_zero, List.getD_cons_succ, ff_22]
    simp
  ·simp only [SS, qx10, vun, simprocAttr, f0, f3, ff_22]
   repeat (first | refine qqm rfl ?_ | ((first | refine qqr ?_ | refine qqt ?_); simp only [SS, qx10, vun, simprocAttr, f0, f3, ff_22]))
   refine ih (s.size - (i + 1)) (by omega) _ ⟨i + 1, rfl, rfl, f0, ?_, hi, rfl⟩
   simp only [packed, fset_apply, Nat.reduceEqDiff, ↓reduceIte, List.getD_cons_zero, List.getD_cons_succ, ff_22]
   unfold maxL at hs
   rw [wrap_in (by omega) (by omega)]; rfl
 ·by_cases h1 : (1 : Int) ≤ s.size
  ·repeat (first | refine qqm rfl ?_ | ((first | refine qqr ?_ | refine qqt ?_); simp only [SS, qx10, vun, simprocAttr, f0, f3, hi, h1, ff_22]))
   (first | refine WK.retNil ⟨Or.inr rfl, _, rfl, ?_, ?_⟩ | refine WK.skipNil ⟨Or.inl rfl, _, rfl, ?_, ?_⟩)
   ·exact fun _ _ => rfl
   ·simp only [packed, fset_apply, Nat.reduceEqDiff, ↓reduceIte, List.getD_cons_zero, List.getD_cons_succ, ff_22]
    simp
  ·repeat (first | refine qqm rfl ?_ | ((first | refine qqr ?_ | refine qqt ?_); simp only [SS, qx10, vun, simprocAttr, f0, f3, hi, h1, ff_22]))
   (first | refine WK.retNil ⟨Or.inr rfl, _, rfl, ?_, ?_⟩ | refine WK.skipNil ⟨Or.inl rfl, _, rfl, ?_, ?_⟩)
   ·exact fun _ _ => rfl
   ·simp only [packed, fset_apply, Nat.reduceEqDiff, ↓reduceIte, List.getD_cons_zero, List.getD_cons_succ, ff_22]
    simp
def place (l : List ByteArray) (s : ByteArray) : Nat → Int
 | i => match l with
  | [] => -1
  | a :: l => if a.toList = s.toList then i else place l s (i + 1)
theorem place_gives {p : Option Addr} {l : List ByteArray} {s : ByteArray} {n : Nat} {H : Heap} (h : RA Value.string H p l) (hl : l.length ≤ maxL) :
  Gives Try.prog 21 [.slice p l.length l.length, .string s] n H fun v n' H' => v = .int .i64 (place l s 0) ∧ n' = n ∧ H' = H := by
 refine Gives.of orders ok21 (Nat.le_of_ble_eq_true rfl) ?_
 repeat (first | refine qqm rfl ?_ | ((first | refine qqr ?_ | refine qqt ?_); simp only [SS, qx20, simprocAttr, ff_21]))
 refine WK.loop (fun k s' => ∃ i, s'.n = n ∧ s'.H = H ∧ s'.f 0 = .slice p l.length l.length ∧ s'.f 1 = .string s ∧ s'.f 5 = .int .i64 (i : Nat) ∧ i ≤ l.length ∧ k = l.length - i ∧ place (l.drop i) s i = place l s 0) l.length ?_ ?_
 ·exact ⟨0, rfl, rfl, rfl, rfl, rfl, Nat.zero_le _, rfl, rfl⟩
 rintro k ⟨f, n', H'⟩ ⟨i, rfl, rfl, f0, f1, f5, hi, rfl, hpl⟩ ih
 simp only at f0 f1 f5 ih h
 by_cases hi : i < l.length
 ·obtain ⟨x, k, cs, ty, own, rfl, hx, e⟩ := h.at hi
  have d : l.drop i = l[i] :: l.drop (i + 1) := List.drop_eq_getElem_cons hi
  by_cases he : (l[i].toList == s.toList) = true
  ·repeat (first | refine qqm rfl ?_ | ((first | refine qqr ?_ | refine qqt ?_); simp only [SS, qx20, simprocAttr, f0, f1, f5, hi, hx, e, he, ff_21]))
   (first | refine WK.retNil ⟨Or.inr rfl, _, rfl, ?_, ?_⟩ | refine WK.skipNil ⟨Or.inl rfl, _, rfl, ?_, ?_⟩)
   ·exact fun _ _ => rfl
   ·simp only [packed, fset_apply, Nat.reduceEqDiff, ↓reduceIte, List.getD_cons_zero, List.getD_cons_succ, f5, ff_21]
    rw [← hpl, d, place, if_pos (by simpa using he)]; trivial
  ·have he : (l[i].toList == s.toList) = false := by simpa using he
   repeat (first | refine qqm rfl ?_ | ((first | refine qqr ?_ | refine qqt ?_); simp only [SS, qx20, simprocAttr, f0, f1, f5, hi, hx, e, he, ff_21]))
   refine ih (l.length - (i + 1)) (by omega) _ ⟨i + 1, rfl, rfl, f0, f1, ?_, hi, rfl, ?_⟩
   ·simp only [packed, fset_apply, Nat.reduceEqDiff, ↓reduceIte, List.getD_cons_zero, List.getD_cons_succ, ff_21]
    unfold maxL at hl
    rw [wrap_in (by omega) (by omega)]; rfl
   ·rw [← hpl, d]
    conv => rhs; rw [place]
    rw [if_neg (by simpa using he)]
 ·repeat (first | refine qqm rfl ?_ | ((first | refine qqr ?_ | refine qqt ?_); simp only [SS, qx20, simprocAttr, f0, f1, f5, hi, ff_21]))
  (first | refine WK.retNil ⟨Or.inr rfl, _, rfl, ?_, ?_⟩ | refine WK.skipNil ⟨Or.inl rfl, _, rfl, ?_, ?_⟩)
  ·exact fun _ _ => rfl
  ·simp only [packed, fset_apply, Nat.reduceEqDiff, ↓reduceIte, List.getD_cons_zero, List.getD_cons_succ, ff_21]
   rw [← hpl, List.drop_eq_nil_of_le (by omega)]
   simp [place]
end Go.Proofs.Ytemkglelfeidhaa
