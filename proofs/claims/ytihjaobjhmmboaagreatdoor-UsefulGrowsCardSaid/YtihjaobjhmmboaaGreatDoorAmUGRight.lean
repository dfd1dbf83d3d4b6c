/- A part of a proof. Its conditions: none. -/
import Derived.Test.YtihjaobjhmmboaaGreatDoorAmUFacts
import Derived.Test.YtihjaobjhmmboaaGreatDoorAmC
import Derived.Test.YtihjaobjhmmboaaGreatDoorAmD
import Derived.Test.YtihjaobjhmmboaaGreatDoorAmULfRule
import Derived.Test.YtihjaobjhmmboaaGreatDoorAmULfStr
set_option linter.all false
namespace Go.Proofs.YtihjaobjhmmboaaGreatDoor
open Go.AM
set_option maxRecDepth 100000
theorem isVar_gives (x : Int) (n : Nat) (H : Heap) : Gives Tryz.prog 28 [.int .i64 x] n H fun v n' H' => v = .bool (decide (0 ≤ x)) ∧ n' = n ∧ H' = H := by
 refine Gives.of orders ok28 (Nat.le_of_ble_eq_true rfl) ?_
 repeat (first | refine qqm rfl ?_ | ((first | refine qqr ?_ | refine qqt ?_); simp only [SS, qx23, simprocAttr]))
 first | refine qqf ?_ ?_ | refine qqg ?_ ?_
 ·exact fun _ _ => rfl
 ·simp only [packed, qv, Nat.reduceEqDiff, ↓reduceIte]
  simp
def countR (l : List GRule) (x : Int) : Nat := (l.filter fun r => decide (r.left = x)).length
theorem count_gives {v : Value} {g : Gram} {x : Int} {n : Nat} {H : Heap} (hw : WF n H) (hg : RG H v g) (wg : WG g) :
  Gives Tryz.prog 36 [v, .int .i64 x] n H fun v _ _ => v = .int .i64 (countR g.rules x) := by
 obtain ⟨pt, pv, pr, rfl, ht, hv, hr⟩ := hg
 refine Gives.of orders ok36 (Nat.le_of_ble_eq_true rfl) ?_
 have hk := Kp.new n H (.cells (gcells pt pv pr g) 25 true)
 replace hr := hr.mono hw hk
 have hb := hset_at H n (.cells (gcells pt pv pr g) 25 true)
 repeat refine qqn rfl ?_
 (refine qqr ?_; simp only [SS, qx15, simprocAttr, box_cells, box_one, ff_36])
 repeat refine qqn rfl ?_
 generalize hset H n (.cells (gcells pt pv pr g) 25 true) = H1 at *
 repeat (first | refine qqm rfl ?_ | ((first | refine qqr ?_ | refine qqt ?_); simp only [SS, qx15, simprocAttr, ff_36]))
 have hl := wg.rules
 unfold maxL at hl
 refine WK.loop (fun k s => ∃ i c, s.n = n + 1 ∧ s.H = H1 ∧ s.f 1 = .int .i64 x ∧ s.f 2 = .pointer (some ⟨n, 0, none⟩) ∧ s.f 5 = .int .i64 (c : Nat) ∧ s.f 6 = .int .i64 (i : Nat) ∧ i ≤ g.rules.length ∧ c ≤ i ∧ k = g.rules.length - i ∧ c = countR (g.rules.take i) x) g.rules.length ?_ ?_
 ·exact ⟨0, 0, rfl, rfl, rfl, rfl, rfl, rfl, Nat.zero_le _, Nat.zero_le _, rfl, rfl⟩
 rintro k ⟨f, n', H'⟩ ⟨i, c, rfl, rfl, f1, f2, f5, f6, hi, hci, rfl, hc⟩ ih
 simp only at f1 f2 f5 f6 ih hr hb
 by_cases hir : i < g.rules.length
 ·obtain ⟨y, k, cs, ty, own, p, rfl, hx, c0, c1, c2, hp⟩ := hr.at hir
  have ht : g.rules.take (i + 1) = g.rules.take i ++ [g.rules[i]] := List.take_succ_eq_append_getElem hir
  by_cases he : g.rules[i].left = x
  ·repeat (first | refine qqm rfl ?_ | ((first | refine qqr ?_ | refine qqt ?_); simp only [SS, qx15, simprocAttr, f1, f2, f5, f6, hb, gc_2, hir, hx, c0, he, ff_36]))
   refine ih (g.rules.length - (i + 1)) (by omega) _ ⟨i + 1, c + 1, rfl, rfl, f1, f2, ?_, ?_, hir, by omega, rfl, ?_⟩
   ·simp only [packed, qv, Nat.reduceEqDiff, ↓reduceIte, ff_36]
    rw [wrap_in (by omega) (by omega)]; rfl
   ·simp only [packed, qv, Nat.reduceEqDiff, ↓reduceIte, f6, ff_36]
    rw [wrap_in (by omega) (by omega)]; rfl
   ·rw [ht, hc]; unfold countR; rw [List.filter_append, List.length_append]; simp [he]
  ·repeat (first | refine qqm rfl ?_ | ((first | refine qqr ?_ | refine qqt ?_); simp only [SS, qx15, simprocAttr, f1, f2, f5, f6, hb, gc_2, hir, hx, c0, he, ff_36]))
   refine ih (g.rules.length - (i + 1)) (by omega) _ ⟨i + 1, c, rfl, rfl, f1, f2, f5, ?_, hir, by omega, rfl, ?_⟩
   ·simp only [packed, qv, Nat.reduceEqDiff, ↓reduceIte, ff_36]
    rw [wrap_in (by omega) (by omega)]; rfl
   ·rw [ht, hc]; unfold countR; rw [List.filter_append, List.length_append]; simp [he]
 ·repeat (first | refine qqm rfl ?_ | ((first | refine qqr ?_ | refine qqt ?_); simp only [SS, qx15, simprocAttr, f1, f2, f5, f6, hb, gc_2, hir, ff_36]))
  first | refine qqf ?_ ?_ | refine qqg ?_ ?_
  ·exact hk.keep
  ·simp only [packed, qv, Nat.reduceEqDiff, ↓reduceIte, f5, ff_36]
   rw [List.take_of_length_le (by omega)] at hc
   rw [hc]
def usesR (l : List GRule) (x : Int) : Bool := l.any fun r => r.right.any fun s => decide (s = x)
theorem uses_gives {v : Value} {g : Gram} {x : Int} {n : Nat} {H : Heap} (hw : WF n H) (hg : RG H v g) (wg : WG g) :
  Gives Tryz.prog 37 [v, .int .i64 x] n H fun v _ _ => v = .bool (usesR g.rules x) := by
 obtain ⟨pt, pv, pr, rfl, ht, hv, hr⟩ := hg
 refine Gives.of orders ok37 (Nat.le_of_ble_eq_true rfl) ?_
 have hk := Kp.new n H (.cells (gcells pt pv pr g) 25 true)
 replace hr := hr.mono hw hk
 have hb := hset_at H n (.cells (gcells pt pv pr g) 25 true)
 repeat refine qqn rfl ?_
 (refine qqr ?_; simp only [SS, qx15, simprocAttr, box_cells, box_one, ff_37])
 repeat refine qqn rfl ?_
 generalize hset H n (.cells (gcells pt pv pr g) 25 true) = H1 at *
 repeat (first | refine qqm rfl ?_ | ((first | refine qqr ?_ | refine qqt ?_); simp only [SS, qx15, simprocAttr, ff_37]))
 have hl := wg.rules
 unfold maxL at hl
 refine WK.loop (fun k s => ∃ i, s.n = n + 1 ∧ s.H = H1 ∧ s.f 1 = .int .i64 x ∧ s.f 2 = .pointer (some ⟨n, 0, none⟩) ∧ s.f 5 = .int .i64 (i : Nat) ∧ i ≤ g.rules.length ∧ k = g.rules.length - i ∧ usesR (g.rules.take i) x = false) g.rules.length ?_ ?_
 ·exact ⟨0, rfl, rfl, rfl, rfl, rfl, Nat.zero_le _, rfl, rfl⟩
 rintro k ⟨f, n', H'⟩ ⟨i, rfl, rfl, f1, f2, f5, hi, rfl, hc⟩ ih
 simp only at f1 f2 f5 ih hr hb
 by_cases hir : i < g.rules.length
 ·obtain ⟨y, k, cs, ty, own, p, rfl, hx, c0, c1, c2, hp⟩ := hr.at hir
  have ht : g.rules.take (i + 1) = g.rules.take i ++ [g.rules[i]] := List.take_succ_eq_append_getElem hir
  obtain ⟨hrl, _⟩ := wg.right _ (List.getElem_mem hir)
  unfold maxL at hrl
  repeat (first | refine qqm rfl ?_ | ((first | refine qqr ?_ | refine qqt ?_); simp only [SS, qx15, simprocAttr, f1, f2, f5, hb, gc_2, hir, ff_37]))
  refine WK.loop (fun k s => ∃ j, s.n = n + 1 ∧ s.H = H' ∧ s.f 1 = .int .i64 x ∧ s.f 2 = .pointer (some ⟨n, 0, none⟩) ∧ s.f 5 = .int .i64 (i : Nat) ∧ s.f 6 = .int .i64 (j : Nat) ∧ j ≤ g.rules[i].right.length ∧ k = g.rules[i].right.length - j ∧ (g.rules[i].right.take j).any (fun s => decide (s = x)) = false) g.rules[i].right.length ?_ ?_
  ·exact ⟨0, rfl, rfl, f1, f2, f5, rfl, Nat.zero_le _, rfl, rfl⟩
  rintro k' ⟨f', n', H'⟩ ⟨j, rfl, rfl, f1, f2, f5, f6, hj, rfl, hcj⟩ ih2
  simp only at f1 f2 f5 f6 ih2 ih hr hb hx hp
  by_cases hjr : j < g.rules[i].right.length
  ·obtain ⟨z, kz, ds, tz, oz, rfl, hz, e⟩ := hp.at hjr
   have htj : g.rules[i].right.take (j + 1) = g.rules[i].right.take j ++ [g.rules[i].right[j]] := List.take_succ_eq_append_getElem hjr
   by_cases he : g.rules[i].right[j] = x
   ·repeat (first | refine qqm rfl ?_ | ((first | refine qqr ?_ | refine qqt ?_); simp only [SS, qx15, simprocAttr, f1, f2, f5, f6, hb, gc_2, hir, hx, c1, hjr, hz, e, he, ff_37]))
    first | refine qqf ?_ ?_ | refine qqg ?_ ?_
    ·exact hk.keep
    ·simp only [packed, qv, Nat.reduceEqDiff, ↓reduceIte, ff_37]
     have : usesR g.rules x = true := by
      simp only [usesR, List.any_eq_true]
      exact ⟨_, List.getElem_mem hir, _, List.getElem_mem hjr, by simpa using he⟩
     rw [this]
   ·repeat (first | refine qqm rfl ?_ | ((first | refine qqr ?_ | refine qqt ?_); simp only [SS, qx15, simprocAttr, f1, f2, f5, f6, hb, gc_2, hir, hx, c1, hjr, hz, e, he, ff_37]))
    refine ih2 (g.rules[i].right.length - (j + 1)) (by omega) _ ⟨j + 1, rfl, rfl, f1, f2, f5, ?_, hjr, rfl, ?_⟩
    ·simp only [packed, qv, Nat.reduceEqDiff, ↓reduceIte, ff_37]
     rw [wrap_in (by omega) (by omega)]; rfl
    ·rw [htj, List.any_append, hcj]; simp [he]
  ·repeat (first | refine qqm rfl ?_ | ((first | refine qqr ?_ | refine qqt ?_); simp only [SS, qx15, simprocAttr, f1, f2, f5, f6, hb, gc_2, hir, hx, c1, hjr, ff_37]))
   refine ih (g.rules.length - (i + 1)) (by omega) _ ⟨i + 1, rfl, rfl, f1, f2, ?_, hir, rfl, ?_⟩
   ·simp only [packed, qv, Nat.reduceEqDiff, ↓reduceIte, ff_37]
    rw [wrap_in (by omega) (by omega)]; rfl
   ·rw [List.take_of_length_le (by omega)] at hcj
    rw [ht]; simp only [usesR, List.any_append, List.any_cons, List.any_nil, hcj] at hc ⊢
    simpa using hc
 ·repeat (first | refine qqm rfl ?_ | ((first | refine qqr ?_ | refine qqt ?_); simp only [SS, qx15, simprocAttr, f1, f2, f5, hb, gc_2, hir, ff_37]))
  first | refine qqf ?_ ?_ | refine qqg ?_ ?_
  ·exact hk.keep
  ·simp only [packed, qv, Nat.reduceEqDiff, ↓reduceIte, ff_37]
   rw [List.take_of_length_le (by omega)] at hc
   rw [hc]
end Go.Proofs.YtihjaobjhmmboaaGreatDoor

namespace Go.Proofs.YtihjaobjhmmboaaGreatDoor
open Go.AM
set_option maxRecDepth 100000
structure RightOK (g : Gram) : Prop where
 vars1 : 1 ≤ g.vars.length
 vars : g.vars.length ≤ 64
 terms : g.terms.length ≤ 64
 rules : g.rules.length ≤ 256
 rule : ∀ (i : Nat) (h : i < g.rules.length), RuleOK g i g.rules[i]
 count : ∀ v : Nat, v < g.vars.length → countR g.rules v ≠ 0
set_option maxHeartbeats 4000000 in
theorem right_gives {v : Value} {g : Gram} {n : Nat} {H : Heap} (hw : WF n H) (hg : RG H v g) (wg : WG g) :
  Gives Tryz.prog 10 [v] n H fun v _ _ => ∃ t, v = .bool t ∧ (t = true → RightOK g) := by
 have hg0 := hg
 obtain ⟨pt, pv, pr, rfl, ht, hv, hr⟩ := hg
 refine Gives.of orders ok10 (Nat.le_of_ble_eq_true rfl) ?_
 have hk := Kp.new n H (.cells (gcells pt pv pr g) 25 true)
 have hb := hset_at H n (.cells (gcells pt pv pr g) 25 true)
 repeat refine qqn rfl ?_
 (refine qqr ?_; simp only [SS, qx0, vun, simprocAttr, box_cells, box_one, ff_10])
 repeat refine qqn rfl ?_
 have hw1 := hk.wf hw
 have hg1 := hg0.mono hw hk
 generalize hset H n (.cells (gcells pt pv pr g) 25 true) = H1 at *
 have bad : ∀ (f : Fr) (n' : Nat) (H' : Heap), f 2 = .bool false → Kp (n + 1) H1 n' H' → Fin Tryz.prog Tryz.f10.results.toList n H (fun v _ _ => ∃ t, v = .bool t ∧ (t = true → RightOK g)) .ret ⟨f, n', H'⟩ :=
  fun f n' H' hf k => ⟨Or.inr rfl, [f 2], rfl, (hk.trans k).keep, false, hf, fun h => by cases h⟩
 by_cases hA : (g.vars.length : Int) < 1
 ·repeat (first | refine qqm rfl ?_ | ((first | refine qqr ?_ | refine qqt ?_); simp only [SS, qx0, vun, simprocAttr, hb, gc_0, gc_1, gc_2, hA, ff_10]))
  exact WK.retNil (bad _ _ _ rfl (Kp.refl _ _))
 by_cases hB : (64 : Int) < g.vars.length
 ·repeat (first | refine qqm rfl ?_ | ((first | refine qqr ?_ | refine qqt ?_); simp only [SS, qx0, vun, simprocAttr, hb, gc_0, gc_1, gc_2, hA, hB, ff_10]))
  exact WK.retNil (bad _ _ _ rfl (Kp.refl _ _))
 by_cases hC : (64 : Int) < g.terms.length
 ·repeat (first | refine qqm rfl ?_ | ((first | refine qqr ?_ | refine qqt ?_); simp only [SS, qx0, vun, simprocAttr, hb, gc_0, gc_1, gc_2, hA, hB, hC, ff_10]))
  exact WK.retNil (bad _ _ _ rfl (Kp.refl _ _))
 by_cases hD : (256 : Int) < g.rules.length
 ·repeat (first | refine qqm rfl ?_ | ((first | refine qqr ?_ | refine qqt ?_); simp only [SS, qx0, vun, simprocAttr, hb, gc_0, gc_1, gc_2, hA, hB, hC, hD, ff_10]))
  exact WK.retNil (bad _ _ _ rfl (Kp.refl _ _))
 repeat (first | refine qqm rfl ?_ | ((first | refine qqr ?_ | refine qqt ?_); simp only [SS, qx0, vun, simprocAttr, hb, gc_0, gc_1, gc_2, hA, hB, hC, hD, ff_10]))
 refine WK.loop (fun k s => ∃ j, s.n = n + 1 ∧ s.H = H1 ∧ s.f 1 = .pointer (some ⟨n, 0, none⟩) ∧ s.f 3 = .int .i64 (j : Nat) ∧ j ≤ g.vars.length ∧ k = g.vars.length - j) g.vars.length ?_ ?_
 ·exact ⟨0, rfl, rfl, rfl, rfl, Nat.zero_le _, rfl⟩
 rintro kk ⟨f, n', H'⟩ ⟨j, rfl, rfl, f1, f3, hj, rfl⟩ ih
 simp only at f1 f3 ih hb hw1 hg1 hk bad
 obtain ⟨pt', pv', pr', e', ht1, hv1, hr1⟩ := hg1
 obtain ⟨rfl, rfl, rfl⟩ : pt = pt' ∧ pv = pv' ∧ pr = pr' := by simpa [gcells] using e'
 by_cases hjr : j < g.vars.length
 ·obtain ⟨x, k, cs, ty, own, rfl, hx, e⟩ := hv1.at hjr
  repeat (first | refine qqm rfl ?_ | ((first | refine qqr ?_ | refine qqt ?_); simp only [SS, qx0, vun, simprocAttr, f1, f3, hb, gc_0, gc_1, gc_2, hjr, hx, e, ff_10]))
  refine AtCall.by (isName_gives _ _ _) ?_
  rintro v n' H' hk' ⟨⟨t, rfl⟩, rfl, rfl⟩
  cases t
  ·simp only [SS, qx0, vun, simprocAttr, hb, hx, f1, f3, ff_10]
   repeat (first | refine qqm rfl ?_ | ((first | refine qqr ?_ | refine qqt ?_); simp only [SS, qx0, vun, simprocAttr, hb, hx, f1, f3, ff_10]))
   exact WK.retNil (bad _ _ _ rfl (Kp.refl _ _))
  ·simp only [SS, qx0, vun, simprocAttr, f1, f3, hb, gc_0, gc_1, gc_2, hjr, hx, e, ff_10]
   refine AtCall.by (place_gives hv1 wg.vars) ?_
   rintro v n' H' hk' ⟨rfl, rfl, rfl⟩
   by_cases hP : place g.vars g.vars[j] 0 = j
   ·simp only [SS, qx0, vun, simprocAttr, f1, f3, hP, ff_10]
    repeat (first | refine qqm rfl ?_ | ((first | refine qqr ?_ | refine qqt ?_); simp only [SS, qx0, vun, simprocAttr, f1, f3, hP, ff_10]))
    refine ih (g.vars.length - (j + 1)) (by omega) _ ⟨j + 1, rfl, rfl, f1, ?_, hjr, rfl⟩
    simp only [packed, qv, Nat.reduceEqDiff, ↓reduceIte, f3, ff_10]
    rw [wrap_in (by omega) (by omega)]; rfl
   ·simp only [SS, qx0, vun, simprocAttr, f1, f3, hP, ff_10]
    repeat (first | refine qqm rfl ?_ | ((first | refine qqr ?_ | refine qqt ?_); simp only [SS, qx0, vun, simprocAttr, f1, f3, hP, ff_10]))
    exact WK.retNil (bad _ _ _ rfl (Kp.refl _ _))
 ·repeat (first | refine qqm rfl ?_ | ((first | refine qqr ?_ | refine qqt ?_); simp only [SS, qx0, vun, simprocAttr, f1, f3, hb, gc_0, gc_1, gc_2, hjr, ff_10]))
  clear ih f3
  refine WK.loop (fun k s => ∃ j, s.n = n + 1 ∧ s.H = H' ∧ s.f 1 = .pointer (some ⟨n, 0, none⟩) ∧ s.f 4 = .int .i64 (j : Nat) ∧ j ≤ g.terms.length ∧ k = g.terms.length - j) g.terms.length ?_ ?_
  ·exact ⟨0, rfl, rfl, f1, rfl, Nat.zero_le _, rfl⟩
  rintro kk ⟨f, n', H'⟩ ⟨j, rfl, rfl, f1, f4, hj, rfl⟩ ih
  simp only at f1 f4 ih hb hw1 ht1 hv1 hr1 hk bad
  by_cases hjr : j < g.terms.length
  ·obtain ⟨x, k, cs, ty, own, rfl, hx, e⟩ := ht1.at hjr
   have hsz := wg.size g.terms[j] (List.mem_append_left _ (List.getElem_mem hjr))
   repeat (first | refine qqm rfl ?_ | ((first | refine qqr ?_ | refine qqt ?_); simp only [SS, qx0, vun, simprocAttr, f1, f4, hb, gc_0, gc_1, gc_2, hjr, hx, e, ff_10]))
   refine AtCall.by (isQuote_gives _ hsz _ _) ?_
   rintro v n' H' hk' ⟨⟨t, rfl⟩, rfl, rfl⟩
   cases t
   ·simp only [SS, qx0, vun, simprocAttr, hb, hx, f1, f4, ff_10]
    repeat (first | refine qqm rfl ?_ | ((first | refine qqr ?_ | refine qqt ?_); simp only [SS, qx0, vun, simprocAttr, hb, hx, f1, f4, ff_10]))
    exact WK.retNil (bad _ _ _ rfl (Kp.refl _ _))
   ·by_cases hj0 : (0 : Int) < j
    ·have hw' : IntKind.i64.wrap ((j : Int) - 1) = ((j - 1 : Nat) : Int) := by rw [wrap_in (by omega) (by omega)]; omega
     have hj' : j - 1 < g.terms.length := by omega
     obtain ⟨x', k', cs', ty', own', e', hx', e2⟩ := ht1.at hj'
     cases e'
     rw [hx] at hx'
     cases hx'
     by_cases hL : (!Op.bytesLess g.terms[j - 1].toList g.terms[j].toList) = true
     ·simp only [SS, qx0, vun, simprocAttr, f1, f4, hb, gc_0, gc_1, gc_2, hjr, hx, e, hj0, hw', hj', e2, hL, ff_10]
      repeat (first | refine qqm rfl ?_ | ((first | refine qqr ?_ | refine qqt ?_); simp only [SS, qx0, vun, simprocAttr, f1, f4, hL, ff_10]))
      exact WK.retNil (bad _ _ _ rfl (Kp.refl _ _))
     ·have hL : (!Op.bytesLess g.terms[j - 1].toList g.terms[j].toList) = false := by simpa using hL
      simp only [SS, qx0, vun, simprocAttr, f1, f4, hb, gc_0, gc_1, gc_2, hjr, hx, e, hj0, hw', hj', e2, hL, ff_10]
      repeat (first | refine qqm rfl ?_ | ((first | refine qqr ?_ | refine qqt ?_); simp only [SS, qx0, vun, simprocAttr, f1, f4, hL, ff_10]))
      refine ih (g.terms.length - (j + 1)) (by omega) _ ⟨j + 1, rfl, rfl, f1, ?_, hjr, rfl⟩
      simp only [packed, qv, Nat.reduceEqDiff, ↓reduceIte, f4, ff_10]
      rw [wrap_in (by omega) (by omega)]; rfl
    ·simp only [SS, qx0, vun, simprocAttr, f1, f4, hb, gc_0, gc_1, gc_2, hjr, hx, e, hj0, ff_10]
     repeat (first | refine qqm rfl ?_ | ((first | refine qqr ?_ | refine qqt ?_); simp only [SS, qx0, vun, simprocAttr, f1, f4, ff_10]))
     refine ih (g.terms.length - (j + 1)) (by omega) _ ⟨j + 1, rfl, rfl, f1, ?_, hjr, rfl⟩
     simp only [packed, qv, Nat.reduceEqDiff, ↓reduceIte, f4, ff_10]
     rw [wrap_in (by omega) (by omega)]; rfl
  ·repeat (first | refine qqm rfl ?_ | ((first | refine qqr ?_ | refine qqt ?_); simp only [SS, qx0, vun, simprocAttr, f1, f4, hb, gc_0, gc_1, gc_2, hjr, ff_10]))
   clear ih f4
   have hb0 := hb
   have hw0 := hw1
   have hg1 : RG H' (.agg (gcells pt pv pr g).toArray) g := ⟨pt, pv, pr, rfl, ht1, hv1, hr1⟩
   have kl : ∀ {n2 : Nat} {H2 : Heap}, Kp (n + 1) H' n2 H2 → H2 n = .cells (gcells pt pv pr g) 25 true ∧ WF n2 H2 ∧ RG H2 (.agg (gcells pt pv pr g).toArray) g :=
    fun k => ⟨(k.keep n (by omega)).trans hb, k.wf hw1, hg1.mono hw1 k⟩
   refine WK.loop (fun k s => ∃ j, Kp (n + 1) H' s.n s.H ∧ s.f 1 = .pointer (some ⟨n, 0, none⟩) ∧ s.f 5 = .int .i64 (j : Nat) ∧ j ≤ g.rules.length ∧ k = g.rules.length - j ∧ ∀ (i : Nat) (h : i < g.rules.length), i < j → RuleOK g i g.rules[i]) g.rules.length ?_ ?_
   ·exact ⟨0, Kp.refl _ _, f1, rfl, Nat.zero_le _, rfl, fun i h hi => by omega⟩
   rintro kk ⟨f, n2, H2⟩ ⟨j, kp, f1, f5, hj, rfl, hru⟩ ih
   simp only at f1 f5 ih kp
   obtain ⟨hb2, hw2, hg2⟩ := kl kp
   by_cases hjr : j < g.rules.length
   ·repeat (first | refine qqm rfl ?_ | ((first | refine qqr ?_ | refine qqt ?_); simp only [SS, qx0, vun, simprocAttr, f1, f5, hb2, gc_0, gc_1, gc_2, gc_len, gc_all, hjr, ff_10]))
    refine AtCall.by (rule_gives hw2 hg2 wg hjr) ?_
    rintro v n3 H3 hk3 ⟨t, rfl, hrule⟩
    have kp3 := kp.trans hk3
    cases t
    ·simp only [SS, qx0, vun, simprocAttr, f1, f5, ff_10]
     repeat (first | refine qqm rfl ?_ | ((first | refine qqr ?_ | refine qqt ?_); simp only [SS, qx0, vun, simprocAttr, f1, f5, ff_10]))
     exact WK.retNil (bad _ _ _ rfl kp3)
    ·simp only [SS, qx0, vun, simprocAttr, f1, f5, ff_10]
     repeat (first | refine qqm rfl ?_ | ((first | refine qqr ?_ | refine qqt ?_); simp only [SS, qx0, vun, simprocAttr, f1, f5, ff_10]))
     refine ih (g.rules.length - (j + 1)) (by omega) _ ⟨j + 1, kp3, f1, ?_, hjr, rfl, fun i h hi => ?_⟩
     ·simp only [packed, qv, Nat.reduceEqDiff, ↓reduceIte, f5, ff_10]
      rw [wrap_in (by omega) (by omega)]; rfl
     ·rcases Nat.lt_or_ge i j with h1 | h1
      ·exact hru i h h1
      ·have : i = j := by omega
       subst this; exact hrule rfl
   ·repeat (first | refine qqm rfl ?_ | ((first | refine qqr ?_ | refine qqt ?_); simp only [SS, qx0, vun, simprocAttr, f1, f5, hb2, gc_0, gc_1, gc_2, hjr, ff_10]))
    clear ih f5 hw2 hg2 hb2
    refine WK.loop (fun k s => ∃ j, Kp (n + 1) H' s.n s.H ∧ s.f 1 = .pointer (some ⟨n, 0, none⟩) ∧ s.f 6 = .int .i64 (j : Nat) ∧ j ≤ g.vars.length ∧ k = g.vars.length - j ∧ ∀ i : Nat, i < j → countR g.rules i ≠ 0) g.vars.length ?_ ?_
    ·exact ⟨0, kp, f1, rfl, Nat.zero_le _, rfl, fun i hi => by omega⟩
    rintro kk ⟨f, n2, H2⟩ ⟨j2, kp, f1, f6, hj2, rfl, hcn⟩ ih
    simp only at f1 f6 ih kp
    obtain ⟨hb2, hw2, hg2⟩ := kl kp
    by_cases hjv : j2 < g.vars.length
    ·repeat (first | refine qqm rfl ?_ | ((first | refine qqr ?_ | refine qqt ?_); simp only [SS, qx0, vun, simprocAttr, f1, f6, hb2, gc_0, gc_1, gc_2, gc_len, gc_all, hjv, ff_10]))
     refine AtCall.by (count_gives hw2 hg2 wg) ?_
     rintro v n3 H3 hk3 rfl
     have kp3 := kp.trans hk3
     by_cases hz : ((countR g.rules j2 : Nat) : Int) = 0
     ·simp only [SS, qx0, vun, simprocAttr, f1, f6, hz, ff_10]
      repeat (first | refine qqm rfl ?_ | ((first | refine qqr ?_ | refine qqt ?_); simp only [SS, qx0, vun, simprocAttr, f1, f6, ff_10]))
      exact WK.retNil (bad _ _ _ rfl kp3)
     ·simp only [SS, qx0, vun, simprocAttr, f1, f6, hz, ff_10]
      repeat (first | refine qqm rfl ?_ | ((first | refine qqr ?_ | refine qqt ?_); simp only [SS, qx0, vun, simprocAttr, f1, f6, ff_10]))
      refine ih (g.vars.length - (j2 + 1)) (by omega) _ ⟨j2 + 1, kp3, f1, ?_, hjv, rfl, fun i hi => ?_⟩
      ·simp only [packed, qv, Nat.reduceEqDiff, ↓reduceIte, f6, ff_10]
       rw [wrap_in (by omega) (by omega)]; rfl
      ·rcases Nat.lt_or_ge i j2 with h1 | h1
       ·exact hcn i h1
       ·have : i = j2 := by omega
        subst this; omega
    ·repeat (first | refine qqm rfl ?_ | ((first | refine qqr ?_ | refine qqt ?_); simp only [SS, qx0, vun, simprocAttr, f1, f6, hb2, gc_0, gc_1, gc_2, hjv, ff_10]))
     clear ih f6 hw2 hg2 hb2
     refine WK.loop (fun k s => ∃ j, Kp (n + 1) H' s.n s.H ∧ s.f 1 = .pointer (some ⟨n, 0, none⟩) ∧ s.f 7 = .int .i64 (j : Nat) ∧ j ≤ g.terms.length ∧ k = g.terms.length - j) g.terms.length ?_ ?_
     ·exact ⟨0, kp, f1, rfl, Nat.zero_le _, rfl⟩
     rintro kk ⟨f, n2, H2⟩ ⟨j3, kp, f1, f7, hj3, rfl⟩ ih
     simp only at f1 f7 ih kp
     obtain ⟨hb2, hw2, hg2⟩ := kl kp
     by_cases hjt : j3 < g.terms.length
     ·have hn := bnot_i64 (n := (j3 : Int)) (by omega) (by omega)
      repeat (first | refine qqm rfl ?_ | ((first | refine qqr ?_ | refine qqt ?_); simp only [SS, qx0, vun, simprocAttr, f1, f7, hb2, gc_0, gc_1, gc_2, gc_len, gc_all, hjt, hn, ff_10]))
      refine AtCall.by (uses_gives hw2 hg2 wg) ?_
      rintro v n3 H3 hk3 rfl
      have kp3 := kp.trans hk3
      cases hu : usesR g.rules (-(j3 : Int) - 1)
      ·simp only [SS, qx0, vun, simprocAttr, f1, f7, ff_10]
       repeat (first | refine qqm rfl ?_ | ((first | refine qqr ?_ | refine qqt ?_); simp only [SS, qx0, vun, simprocAttr, f1, f7, ff_10]))
       exact WK.retNil (bad _ _ _ rfl kp3)
      ·simp only [SS, qx0, vun, simprocAttr, f1, f7, ff_10]
       repeat (first | refine qqm rfl ?_ | ((first | refine qqr ?_ | refine qqt ?_); simp only [SS, qx0, vun, simprocAttr, f1, f7, ff_10]))
       refine ih (g.terms.length - (j3 + 1)) (by omega) _ ⟨j3 + 1, kp3, f1, ?_, hjt, rfl⟩
       simp only [packed, qv, Nat.reduceEqDiff, ↓reduceIte, f7, ff_10]
       rw [wrap_in (by omega) (by omega)]; rfl
     ·repeat (first | refine qqm rfl ?_ | ((first | refine qqr ?_ | refine qqt ?_); simp only [SS, qx0, vun, simprocAttr, f1, f7, hb2, gc_0, gc_1, gc_2, hjt, ff_10]))
      first | refine qqf ?_ ?_ | refine qqg ?_ ?_
      ·exact (hk.trans kp).keep
      ·exact ⟨true, rfl, fun _ => ⟨by omega, by omega, by omega, by omega, fun i h => hru i h (by omega), fun v hv => hcn v (by omega)⟩⟩
end Go.Proofs.YtihjaobjhmmboaaGreatDoor

namespace Go.Proofs.YtihjaobjhmmboaaGreatDoor
open Go.AM
set_option maxRecDepth 100000
def Fgn (H : Heap) (p : Option Addr) : Prop := ∀ x k cs ty own, p = some ⟨x, k, none⟩ → H x = .cells cs ty own → own = false
theorem gsymbol_gives {v : Value} {g : Gram} {s : Int} {n : Nat} {H : Heap} (hw : WF n H) (hg : RG H v g) (hs : inI s) (hl : g.vars.length ≤ maxL ∧ g.terms.length ≤ maxL) :
  Gives Tryz.prog 51 [v, .int .i64 s] n H fun v _ _ => v = .bool (if 0 ≤ s then decide (s < g.vars.length) else decide (-s - 1 < g.terms.length)) := by
 obtain ⟨pt, pv, pr, rfl, ht, hv, hr⟩ := hg
 refine Gives.of orders ok51 (Nat.le_of_ble_eq_true rfl) ?_
 have k1 := Kp.new n H (.cells (gcells pt pv pr g) 25 true)
 have hb := hset_at H n (.cells (gcells pt pv pr g) 25 true)
 unfold inI at hs
 have hn := bnot_i64 hs.1 hs.2
 repeat refine qqn rfl ?_
 (refine qqr ?_; simp only [SS, qx21, vun, simprocAttr, box_cells, box_one, ff_51])
 generalize hset H n (.cells (gcells pt pv pr g) 25 true) = H1 at *
 repeat (first | refine qqm rfl ?_ | ((first | refine qqr ?_ | refine qqt ?_); simp only [SS, qx21, vun, simprocAttr, ff_51]))
 refine AtCall.by (isVar_gives _ _ _) ?_
 rintro v n2 H2 k2 ⟨rfl, rfl, rfl⟩
 by_cases h0 : 0 ≤ s
 ·by_cases h1 : s < (g.vars.length : Int)
  ·simp only [SS, qx21, vun, simprocAttr, h0, decide_true, ff_51]
   repeat (first | refine qqm rfl ?_ | ((first | refine qqr ?_ | refine qqt ?_); simp only [SS, qx21, vun, simprocAttr, hb, gc_0, gc_1, gc_len, h1, ff_51]))
   first | refine qqf ?_ ?_ | refine qqg ?_ ?_
   ·exact k1.keep
   ·simp only [packed, qv, Nat.reduceEqDiff, ↓reduceIte, ff_51]
  ·simp only [SS, qx21, vun, simprocAttr, h0, decide_true, ff_51]
   repeat (first | refine qqm rfl ?_ | ((first | refine qqr ?_ | refine qqt ?_); simp only [SS, qx21, vun, simprocAttr, hb, gc_0, gc_1, gc_len, h1, ff_51]))
   first | refine qqf ?_ ?_ | refine qqg ?_ ?_
   ·exact k1.keep
   ·simp only [packed, qv, Nat.reduceEqDiff, ↓reduceIte, ff_51]
 ·by_cases h1 : -s - 1 < (g.terms.length : Int)
  ·simp only [SS, qx21, vun, simprocAttr, h0, decide_false, ff_51]
   repeat (first | refine qqm rfl ?_ | ((first | refine qqr ?_ | refine qqt ?_); simp only [SS, qx21, vun, simprocAttr, hb, gc_0, gc_1, gc_len, hn, h1, ff_51]))
   first | refine qqf ?_ ?_ | refine qqg ?_ ?_
   ·exact k1.keep
   ·simp only [packed, qv, Nat.reduceEqDiff, ↓reduceIte, ff_51]
  ·simp only [SS, qx21, vun, simprocAttr, h0, decide_false, ff_51]
   repeat (first | refine qqm rfl ?_ | ((first | refine qqr ?_ | refine qqt ?_); simp only [SS, qx21, vun, simprocAttr, hb, gc_0, gc_1, gc_len, hn, h1, ff_51]))
   first | refine qqf ?_ ?_ | refine qqg ?_ ?_
   ·exact k1.keep
   ·simp only [packed, qv, Nat.reduceEqDiff, ↓reduceIte, ff_51]
set_option maxHeartbeats 8000000 in
theorem gnames_gives {pt pv pr : Option Addr} {g : Gram} {n : Nat} {H : Heap} (hw : WF n H) (ht : RA Value.string H pt g.terms) (hv : RA Value.string H pv g.vars) (hvo : g.vars ≠ [] → Fgn H pv) (wg : WG g) :
  Gives Tryz.prog 49 [.agg (gcells pt pv pr g).toArray] n H fun v _ _ => ∃ t, v = .bool t := by
 refine Gives.of orders ok49 (Nat.le_of_ble_eq_true rfl) ?_
 have k1 := Kp.new n H (.cells (gcells pt pv pr g) 25 true)
 have hb := hset_at H n (.cells (gcells pt pv pr g) 25 true)
 have ht1 := ht.mono hw k1
 have hv1 := hv.mono hw k1
 have hw1 := k1.wf hw
 have hwt := wg.terms
 have hwv := wg.vars
 unfold maxL at hwt hwv
 repeat refine qqn rfl ?_
 (refine qqr ?_; simp only [SS, qx13, vun, simprocAttr, box_cells, box_one, ff_49])
 generalize hset H n (.cells (gcells pt pv pr g) 25 true) = H1 at *
 by_cases c1 : (g.vars.length : Int) < 1
 ·repeat (first | refine qqm rfl ?_ | ((first | refine qqr ?_ | refine qqt ?_); simp only [SS, qx13, vun, simprocAttr, hb, gc_0, gc_1, gc_len, c1, ff_49]))
  first | refine qqf ?_ ?_ | refine qqg ?_ ?_
  ·exact k1.keep
  ·simp only [packed, qv, Nat.reduceEqDiff, ↓reduceIte, ff_49]
   exact ⟨_, rfl⟩
 by_cases c2 : (64 : Int) < (g.vars.length : Int)
 ·repeat (first | refine qqm rfl ?_ | ((first | refine qqr ?_ | refine qqt ?_); simp only [SS, qx13, vun, simprocAttr, hb, gc_0, gc_1, gc_len, c1, c2, ff_49]))
  first | refine qqf ?_ ?_ | refine qqg ?_ ?_
  ·exact k1.keep
  ·simp only [packed, qv, Nat.reduceEqDiff, ↓reduceIte, ff_49]
   exact ⟨_, rfl⟩
 by_cases c3 : (64 : Int) < (g.terms.length : Int)
 ·repeat (first | refine qqm rfl ?_ | ((first | refine qqr ?_ | refine qqt ?_); simp only [SS, qx13, vun, simprocAttr, hb, gc_0, gc_1, gc_len, c1, c2, c3, ff_49]))
  first | refine qqf ?_ ?_ | refine qqg ?_ ?_
  ·exact k1.keep
  ·simp only [packed, qv, Nat.reduceEqDiff, ↓reduceIte, ff_49]
   exact ⟨_, rfl⟩
 repeat (first | refine qqm rfl ?_ | ((first | refine qqr ?_ | refine qqt ?_); simp only [SS, qx13, vun, simprocAttr, hb, gc_0, gc_1, gc_len, c1, c2, c3, ff_49]))
 have hsz : isz Tryz.prog 9 = some 1 := by kernel_rfl
 replace hvo := hvo (by intro e; rw [e] at c1; simp at c1)
 have hvo1 : Fgn H1 pv := fun x k' cs ty own e1 e2 => by
  have hx : x < n := Classical.byContradiction fun hc => by
   obtain ⟨x', k2, cs', ty', own', f1, f2, _⟩ := hv (by intro e; rw [e] at c1; simp at c1)
   rw [f1] at e1
   cases e1
   rw [hw x (by omega)] at f2; cases f2
  exact hvo x k' cs ty own e1 (by rw [← k1.keep x hx]; exact e2)
 refine WK.loop (fun k s => ∃ i : Nat, s.n = n + 1 ∧ s.H = H1 ∧ s.f 1 = .pointer (some ⟨n, 0, none⟩) ∧ s.f 24 = .slice pv g.vars.length g.vars.length ∧ s.f 25 = .int .i64 (g.vars.length : Nat) ∧ s.f 26 = .int .i64 (i : Nat) ∧ i ≤ g.vars.length ∧ k = g.vars.length - i) g.vars.length ?_ ?_
 ·exact ⟨0, rfl, rfl, rfl, rfl, rfl, rfl, Nat.zero_le _, rfl⟩
 rintro kk ⟨f, n2, H2⟩ ⟨i, rfl, rfl, f1, f24, f25, f26, hi, rfl⟩ ih
 simp only at f1 f24 f25 f26 hb ht1 hv1 hw1 hvo1 k1 ih
 by_cases hlt : i < g.vars.length
 ·obtain ⟨x, k, cs, ty, own, rfl, hx, e⟩ := hv1.at hlt
  obtain rfl := hvo1 _ _ _ _ _ rfl hx
  have hs := wg.size g.vars[i] (List.mem_append_right _ (List.getElem_mem hlt))
  have hiw : IntKind.i64.wrap ((i : Int) + 1) = ((i + 1 : Nat) : Int) := by rw [wrap_in (by omega) (by omega)]; rfl
  repeat (first | refine qqm rfl ?_ | ((first | refine qqr ?_ | refine qqt ?_); simp only [SS, qx13, vun, simprocAttr, f1, f24, f25, f26, hlt, hx, e, ff_49]))
  refine AtCall.by (lexName_gives _ hs _ _) ?_
  rintro v n3 H3 k3 ⟨⟨t, rfl⟩, rfl, rfl⟩
  cases t with
  | false =>
   simp only [SS, qx13, vun, simprocAttr, ff_49]
   repeat (first | refine qqm rfl ?_ | ((first | refine qqr ?_ | refine qqt ?_); simp only [SS, qx13, vun, simprocAttr, ff_49]))
   first | refine qqf ?_ ?_ | refine qqg ?_ ?_
   ·exact k1.keep
   ·simp only [packed, qv, Nat.reduceEqDiff, ↓reduceIte, ff_49]
    exact ⟨_, rfl⟩
  | true =>
   have hil : i ≤ g.vars.length := hi
   have hct := containsS_gives (p := some ⟨x, k, none⟩) (l := g.vars.take i) (s := g.vars[i]) (n := n + 1) (fun hne => ⟨x, k, cs, ty, false, rfl, hx, fun j y e => by
    obtain ⟨x', k', cs', ty', own', f1, f2, f3⟩ := hv1 (by intro e0; rw [e0] at hlt; simp at hlt)
    cases f1
    rw [hx] at f2
    cases f2
    rw [List.getElem?_take] at e
    split at e
    ·exact f3 j y e
    ·cases e⟩) (by unfold maxL; rw [List.length_take]; omega)
   rw [List.length_take, Nat.min_eq_left hi] at hct
   simp only [SS, qx13, vun, simprocAttr, f1, f26, hb, gc_1, gc_len, hx, hil, Nat.zero_le, Nat.sub_zero, Nat.zero_mul, Nat.add_zero, Bool.false_eq_true, false_imp_iff, and_self, and_true, ff_49]
   refine AtCall.by hct ?_
   rintro v n4 H4 k4 ⟨⟨t, rfl⟩, rfl, rfl⟩
   cases t with
   | true =>
    simp only [SS, qx13, vun, simprocAttr, ff_49]
    repeat (first | refine qqm rfl ?_ | ((first | refine qqr ?_ | refine qqt ?_); simp only [SS, qx13, vun, simprocAttr, ff_49]))
    first | refine qqf ?_ ?_ | refine qqg ?_ ?_
    ·exact k1.keep
    ·simp only [packed, qv, Nat.reduceEqDiff, ↓reduceIte, ff_49]
     exact ⟨_, rfl⟩
   | false =>
    simp only [SS, qx13, vun, simprocAttr, ff_49]
    repeat (first | refine qqm rfl ?_ | ((first | refine qqr ?_ | refine qqt ?_); simp only [SS, qx13, vun, simprocAttr, f26, hiw, ff_49]))
    exact ih (g.vars.length - (i + 1)) (by omega) _ ⟨i + 1, rfl, rfl, f1, f24, f25, rfl, hlt, rfl⟩
 ·repeat (first | refine qqm rfl ?_ | ((first | refine qqr ?_ | refine qqt ?_); simp only [SS, qx13, vun, simprocAttr, f1, f24, f25, f26, hlt, hb, gc_0, gc_len, ff_49]))
  clear ih f24 f25 f26
  refine WK.loop (fun k s => ∃ i : Nat, s.n = n + 1 ∧ s.H = H2 ∧ s.f 1 = .pointer (some ⟨n, 0, none⟩) ∧ s.f 44 = .slice pt g.terms.length g.terms.length ∧ s.f 45 = .int .i64 (g.terms.length : Nat) ∧ s.f 46 = .int .i64 (i : Nat) ∧ i ≤ g.terms.length ∧ k = g.terms.length - i) g.terms.length ?_ ?_
  ·exact ⟨0, rfl, rfl, f1, rfl, rfl, rfl, Nat.zero_le _, rfl⟩
  clear f1
  rintro kk ⟨f, n2, H3⟩ ⟨i, rfl, rfl, f1, f44, f45, f46, hi, rfl⟩ ih
  simp only at f1 f44 f45 f46 hb ht1 hv1 hw1 hvo1 k1 ih
  by_cases hlt : i < g.terms.length
  ·obtain ⟨x, k, cs, ty, own, rfl, hx, e⟩ := ht1.at hlt
   have hs := wg.size g.terms[i] (List.mem_append_left _ (List.getElem_mem hlt))
   have hiw : IntKind.i64.wrap ((i : Int) + 1) = ((i + 1 : Nat) : Int) := by rw [wrap_in (by omega) (by omega)]; rfl
   repeat (first | refine qqm rfl ?_ | ((first | refine qqr ?_ | refine qqt ?_); simp only [SS, qx13, vun, simprocAttr, f1, f44, f45, f46, hlt, hx, e, ff_49]))
   refine AtCall.by (lexQuote_gives _ hs _ _) ?_
   rintro v n3 H4 k3 ⟨⟨t, rfl⟩, rfl, rfl⟩
   cases t with
   | false =>
    simp only [SS, qx13, vun, simprocAttr, ff_49]
    repeat (first | refine qqm rfl ?_ | ((first | refine qqr ?_ | refine qqt ?_); simp only [SS, qx13, vun, simprocAttr, ff_49]))
    first | refine qqf ?_ ?_ | refine qqg ?_ ?_
    ·exact k1.keep
    ·simp only [packed, qv, Nat.reduceEqDiff, ↓reduceIte, ff_49]
     exact ⟨_, rfl⟩
   | true =>
    by_cases hj0 : (0 : Int) < i
    ·have hw' : IntKind.i64.wrap ((i : Int) - 1) = ((i - 1 : Nat) : Int) := by rw [wrap_in (by omega) (by omega)]; omega
     have hj' : i - 1 < g.terms.length := by omega
     obtain ⟨x', k', cs', ty', own', e', hx', e2⟩ := ht1.at hj'
     cases e'
     rw [hx] at hx'
     cases hx'
     by_cases hL : (!Op.bytesLess g.terms[i - 1].toList g.terms[i].toList) = true
     ·simp only [SS, qx13, vun, simprocAttr, f1, f46, hb, gc_0, gc_len, hlt, hx, e, hj0, hw', hj', e2, hL, ff_49]
      repeat (first | refine qqm rfl ?_ | ((first | refine qqr ?_ | refine qqt ?_); simp only [SS, qx13, vun, simprocAttr, hL, ff_49]))
      first | refine qqf ?_ ?_ | refine qqg ?_ ?_
      ·exact k1.keep
      ·simp only [packed, qv, Nat.reduceEqDiff, ↓reduceIte, ff_49]
       exact ⟨_, rfl⟩
     ·have hL : (!Op.bytesLess g.terms[i - 1].toList g.terms[i].toList) = false := by simpa using hL
      simp only [SS, qx13, vun, simprocAttr, f1, f46, hb, gc_0, gc_len, hlt, hx, e, hj0, hw', hj', e2, hL, ff_49]
      repeat (first | refine qqm rfl ?_ | ((first | refine qqr ?_ | refine qqt ?_); simp only [SS, qx13, vun, simprocAttr, hL, f46, hiw, ff_49]))
      exact ih (g.terms.length - (i + 1)) (by omega) _ ⟨i + 1, rfl, rfl, f1, f44, f45, rfl, hlt, rfl⟩
    ·simp only [SS, qx13, vun, simprocAttr, f1, f46, hb, gc_0, gc_len, hlt, hx, e, hj0, ff_49]
     repeat (first | refine qqm rfl ?_ | ((first | refine qqr ?_ | refine qqt ?_); simp only [SS, qx13, vun, simprocAttr, f46, hiw, ff_49]))
     exact ih (g.terms.length - (i + 1)) (by omega) _ ⟨i + 1, rfl, rfl, f1, f44, f45, rfl, hlt, rfl⟩
  ·repeat (first | refine qqm rfl ?_ | ((first | refine qqr ?_ | refine qqt ?_); simp only [SS, qx13, vun, simprocAttr, f1, f44, f45, f46, hlt, ff_49]))
   first | refine qqf ?_ ?_ | refine qqg ?_ ?_
   ·exact k1.keep
   ·simp only [packed, qv, Nat.reduceEqDiff, ↓reduceIte, ff_49]
    exact ⟨_, rfl⟩
end Go.Proofs.YtihjaobjhmmboaaGreatDoor
