/- A part of a proof. Its conditions: none. -/
import Derived.Test.YtihjaobjhmmboaaGreatDoorAmUFacts
import Derived.Test.YtihjaobjhmmboaaGreatDoorAmC
import Derived.Test.YtihjaobjhmmboaaGreatDoorAmD
import Derived.Test.YtihjaobjhmmboaaGreatDoorAmULfStr
set_option linter.all false
namespace Go.Proofs.YtihjaobjhmmboaaGreatDoor
open Go.AM
set_option maxRecDepth 100000
theorem isVar_gives (x : Int) (n : Nat) (H : Heap) : Gives Tryz.prog 28 [.int .i64 x] n H fun v n' H' => v = .bool (decide (0 ≤ x)) ∧ n' = n ∧ H' = H := by
 refine Gives.of orders ok28 (Nat.le_of_ble_eq_true rfl) ?_
 repeat (first | refine qqm rfl ?_ | ((first | refine qqr ?_ | refine qqt ?_); simp only [SS, qx19, simprocAttr]))
 first | refine qqf ?_ ?_ | refine qqg ?_ ?_
 ·exact fun _ _ => rfl
 ·simp only [packed, qv, Nat.reduceEqDiff, ↓reduceIte]
  simp
def countR (l : List GRule) (x : Int) : Nat := (l.filter fun r => decide (r.left = x)).length
theorem count_gives {v : Value} {g : Gram} {x : Int} {n : Nat} {H : Heap} (hw : WF n H) (hg : RG H v g) (wg : WG g) :
  Gives Tryz.prog 36 [v, .int .i64 x] n H fun v _ _ => v = .int .i64 (countR g.rules x) := by
 obtain ⟨pt, pv, pr, rfl, ht, hv, hr⟩ := hg
 refine Gives.of orders ok36 (Nat.le_of_ble_eq_true rfl) ?_
 have hk := Kp.new n H (.cells (gcells pt pv pr g) 25 true)
 replace hr := hr.mono hw hk
 have hb := hset_at H n (.cells (gcells pt pv pr g) 25 true)
 repeat refine qqn rfl ?_
 (refine qqr ?_; simp only [SS, qx18, simprocAttr, box_cells, box_one, ff_36])
 repeat refine qqn rfl ?_
 generalize hset H n (.cells (gcells pt pv pr g) 25 true) = H1 at *
 repeat (first | refine qqm rfl ?_ | ((first | refine qqr ?_ | refine qqt ?_); simp only [SS, qx18, simprocAttr, ff_36]))
 have hl := wg.rules
 unfold maxL at hl
 refine WK.loop (fun k s => ∃ i c, s.n = n + 1 ∧ s.H = H1 ∧ s.f 1 = .int .i64 x ∧ s.f 2 = .pointer (some ⟨n, 0, none⟩) ∧ s.f 5 = .int .i64 (c : Nat) ∧ s.f 6 = .int .i64 (i : Nat) ∧ i ≤ g.rules.length ∧ c ≤ i ∧ k = g.rules.length - i ∧ c = countR (g.rules.take i) x) g.rules.length ?_ ?_
 ·exact ⟨0, 0, rfl, rfl, rfl, rfl, rfl, rfl, Nat.zero_le _, Nat.zero_le _, rfl, rfl⟩
 rintro k ⟨f, n', H'⟩ ⟨i, c, rfl, rfl, f1, f2, f5, f6, hi, hci, rfl, hc⟩ ih
 simp only at f1 f2 f5 f6 ih hr hb
 by_cases hir : i < g.rules.length
 ·obtain ⟨y, k, cs, ty, own, p, rfl, hx, c0, c1, c2, hp⟩ := hr.at hir
  have ht : g.rules.take (i + 1) = g.rules.take i ++ [g.rules[i]] := List.take_succ_eq_append_getElem hir
  by_cases he : g.rules[i].left = x
  ·repeat (first | refine qqm rfl ?_ | ((first | refine qqr ?_ | refine qqt ?_); simp only [SS, qx18, simprocAttr, f1, f2, f5, f6, hb, gc_2, hir, hx, c0, he, ff_36]))
   refine ih (g.rules.length - (i + 1)) (by omega) _ ⟨i + 1, c + 1, rfl, rfl, f1, f2, ?_, ?_, hir, by omega, rfl, ?_⟩
   ·simp only [packed, qv, Nat.reduceEqDiff, ↓reduceIte, ff_36]
    rw [wrap_in (by omega) (by omega)]; rfl
   ·simp only [packed, qv, Nat.reduceEqDiff, ↓reduceIte, f6, ff_36]
    rw [wrap_in (by omega) (by omega)]; rfl
   ·rw [ht, hc]; unfold countR; rw [List.filter_append, List.length_append]; simp [he]
  ·repeat (first | refine qqm rfl ?_ | ((first | refine qqr ?_ | refine qqt ?_); simp only [SS, qx18, simprocAttr, f1, f2, f5, f6, hb, gc_2, hir, hx, c0, he, ff_36]))
   refine ih (g.rules.length - (i + 1)) (by omega) _ ⟨i + 1, c, rfl, rfl, f1, f2, f5, ?_, hir, by omega, rfl, ?_⟩
   ·simp only [packed, qv, Nat.reduceEqDiff, ↓reduceIte, ff_36]
    rw [wrap_in (by omega) (by omega)]; rfl
   ·rw [ht, hc]; unfold countR; rw [List.filter_append, List.length_append]; simp [he]
 ·repeat (first | refine qqm rfl ?_ | ((first | refine qqr ?_ | refine qqt ?_); simp only [SS, qx18, simprocAttr, f1, f2, f5, f6, hb, gc_2, hir, ff_36]))
  first | refine qqf ?_ ?_ | refine qqg ?_ ?_
  ·exact hk.keep
  ·simp only [packed, qv, Nat.reduceEqDiff, ↓reduceIte, f5, ff_36]
   rw [List.take_of_length_le (by omega)] at hc
   rw [hc]
def usesR (l : List GRule) (x : Int) : Bool := l.any fun r => r.right.any fun s => decide (s = x)
theorem uses_gives {v : Value} {g : Gram} {x : Int} {n : Nat} {H : Heap} (hw : WF n H) (hg : RG H v g) (wg : WG g) :
  Gives Tryz.prog 37 [v, .int .i64 x] n H fun v _ _ => v = .bool (usesR g.rules x) := by
 obtain ⟨pt, pv, pr, rfl, ht, hv, hr⟩ := hg
 refine Gives.of orders ok37 (Nat.le_of_ble_eq_true rfl) ?_
 have hk := Kp.new n H (.cells (gcells pt pv pr g) 25 true)
 replace hr := hr.mono hw hk
 have hb := hset_at H n (.cells (gcells pt pv pr g) 25 true)
 repeat refine qqn rfl ?_
 (refine qqr ?_; simp only [SS, qx18, simprocAttr, box_cells, box_one, ff_37])
 repeat refine qqn rfl ?_
 generalize hset H n (.cells (gcells pt pv pr g) 25 true) = H1 at *
 repeat (first | refine qqm rfl ?_ | ((first | refine qqr ?_ | refine qqt ?_); simp only [SS, qx18, simprocAttr, ff_37]))
 have hl := wg.rules
 unfold maxL at hl
 refine WK.loop (fun k s => ∃ i, s.n = n + 1 ∧ s.H = H1 ∧ s.f 1 = .int .i64 x ∧ s.f 2 = .pointer (some ⟨n, 0, none⟩) ∧ s.f 5 = .int .i64 (i : Nat) ∧ i ≤ g.rules.length ∧ k = g.rules.length - i ∧ usesR (g.rules.take i) x = false) g.rules.length ?_ ?_
 ·exact ⟨0, rfl, rfl, rfl, rfl, rfl, Nat.zero_le _, rfl, rfl⟩
 rintro k ⟨f, n', H'⟩ ⟨i, rfl, rfl, f1, f2, f5, hi, rfl, hc⟩ ih
 simp only at f1 f2 f5 ih hr hb
 by_cases hir : i < g.rules.length
 ·obtain ⟨y, k, cs, ty, own, p, rfl, hx, c0, c1, c2, hp⟩ := hr.at hir
  have ht : g.rules.take (i + 1) = g.rules.take i ++ [g.rules[i]] := List.take_succ_eq_append_getElem hir
  obtain ⟨hrl, _⟩ := wg.right _ (List.getElem_mem hir)
  unfold maxL at hrl
  repeat (first | refine qqm rfl ?_ | ((first | refine qqr ?_ | refine qqt ?_); simp only [SS, qx18, simprocAttr, f1, f2, f5, hb, gc_2, hir, ff_37]))
  refine WK.loop (fun k s => ∃ j, s.n = n + 1 ∧ s.H = H' ∧ s.f 1 = .int .i64 x ∧ s.f 2 = .pointer (some ⟨n, 0, none⟩) ∧ s.f 5 = .int .i64 (i : Nat) ∧ s.f 6 = .int .i64 (j : Nat) ∧ j ≤ g.rules[i].right.length ∧ k = g.rules[i].right.length - j ∧ (g.rules[i].right.take j).any (fun s => decide (s = x)) = false) g.rules[i].right.length ?_ ?_
  ·exact ⟨0, rfl, rfl, f1, f2, f5, rfl, Nat.zero_le _, rfl, rfl⟩
  rintro k' ⟨f', n', H'⟩ ⟨j, rfl, rfl, f1, f2, f5, f6, hj, rfl, hcj⟩ ih2
  simp only at f1 f2 f5 f6 ih2 ih hr hb hx hp
  by_cases hjr : j < g.rules[i].right.length
  ·obtain ⟨z, kz, ds, tz, oz, rfl, hz, e⟩ := hp.at hjr
   have htj : g.rules[i].right.take (j + 1) = g.rules[i].right.take j ++ [g.rules[i].right[j]] := List.take_succ_eq_append_getElem hjr
   by_cases he : g.rules[i].right[j] = x
   ·repeat (first | refine qqm rfl ?_ | ((first | refine qqr ?_ | refine qqt ?_); simp only [SS, qx18, simprocAttr, f1, f2, f5, f6, hb, gc_2, hir, hx, c1, hjr, hz, e, he, ff_37]))
    first | refine qqf ?_ ?_ | refine qqg ?_ ?_
    ·exact hk.keep
    ·simp only [packed, qv, Nat.reduceEqDiff, ↓reduceIte, ff_37]
     have : usesR g.rules x = true := by
      simp only [usesR, List.any_eq_true]
      exact ⟨_, List.getElem_mem hir, _, List.getElem_mem hjr, by simpa using he⟩
     rw [this]
   ·repeat (first | refine qqm rfl ?_ | ((first | refine qqr ?_ | refine qqt ?_); simp only [SS, qx18, simprocAttr, f1, f2, f5, f6, hb, gc_2, hir, hx, c1, hjr, hz, e, he, ff_37]))
    refine ih2 (g.rules[i].right.length - (j + 1)) (by omega) _ ⟨j + 1, rfl, rfl, f1, f2, f5, ?_, hjr, rfl, ?_⟩
    ·simp only [packed, qv, Nat.reduceEqDiff, ↓reduceIte, ff_37]
     rw [wrap_in (by omega) (by omega)]; rfl
    ·rw [htj, List.any_append, hcj]; simp [he]
  ·repeat (first | refine qqm rfl ?_ | ((first | refine qqr ?_ | refine qqt ?_); simp only [SS, qx18, simprocAttr, f1, f2, f5, f6, hb, gc_2, hir, hx, c1, hjr, ff_37]))
   refine ih (g.rules.length - (i + 1)) (by omega) _ ⟨i + 1, rfl, rfl, f1, f2, ?_, hir, rfl, ?_⟩
   ·simp only [packed, qv, Nat.reduceEqDiff, ↓reduceIte, ff_37]
    rw [wrap_in (by omega) (by omega)]; rfl
   ·rw [List.take_of_length_le (by omega)] at hcj
    rw [ht]; simp only [usesR, List.any_append, List.any_cons, List.any_nil, hcj] at hc ⊢
    simpa using hc
 ·repeat (first | refine qqm rfl ?_ | ((first | refine qqr ?_ | refine qqt ?_); simp only [SS, qx18, simprocAttr, f1, f2, f5, hb, gc_2, hir, ff_37]))
  first | refine qqf ?_ ?_ | refine qqg ?_ ?_
  ·exact hk.keep
  ·simp only [packed, qv, Nat.reduceEqDiff, ↓reduceIte, ff_37]
   rw [List.take_of_length_le (by omega)] at hc
   rw [hc]
end Go.Proofs.YtihjaobjhmmboaaGreatDoor

namespace Go.Proofs.YtihjaobjhmmboaaGreatDoor
open Go.AM
set_option maxRecDepth 100000
structure RightOK (g : Gram) : Prop where
 vars1 : 1 ≤ g.vars.length
 vars : g.vars.length ≤ 64
 terms : g.terms.length ≤ 64
 rules : g.rules.length ≤ 256
 rule : ∀ (i : Nat) (h : i < g.rules.length), RuleOK g i g.rules[i]
 count : ∀ v : Nat, v < g.vars.length → countR g.rules v ≠ 0
structure RightX (g : Gram) : Prop extends RightOK g where
 names : ∀ (i : Nat) (h : i < g.vars.length), NB g.vars[i] ∧ place g.vars g.vars[i] 0 = i
 quotes : ∀ (i : Nat) (h : i < g.terms.length), QB g.terms[i] ∧ ∀ (q : Nat) (hq : q < g.terms.length), i = q + 1 → Op.bytesLess g.terms[q].toList g.terms[i].toList = true
 used : ∀ t : Nat, t < g.terms.length → usesR g.rules (-(t : Int) - 1) = true
 unlike : ∀ (i : Nat) (h : i < g.rules.length), RuleUn g i g.rules[i]
set_option maxHeartbeats 4000000 in
theorem rightX_gives {v : Value} {g : Gram} {n : Nat} {H : Heap} (hw : WF n H) (hg : RG H v g) (wg : WG g) :
    Gives Tryz.prog 10 [v] n H fun v _ _ => ∃ t, v = .bool t ∧ (t = true → RightX g) := by
  have hg0 := hg
  obtain ⟨pt, pv, pr, rfl, ht, hv, hr⟩ := hg
  refine Gives.of orders ok10 (Nat.le_of_ble_eq_true rfl) ?_
  have hk := Kp.new n H (.cells (gcells pt pv pr g) 25 true)
  have hb := hset_at H n (.cells (gcells pt pv pr g) 25 true)
  repeat refine qqn rfl ?_
  (refine qqr ?_; simp only [SS, qx0, vun, simprocAttr, box_cells, box_one, ff_10])
  repeat refine qqn rfl ?_
  have hw1 := hk.wf hw
  have hg1 := hg0.mono hw hk
  generalize hset H n (.cells (gcells pt pv pr g) 25 true) = H1 at *
  have bad : ∀ (f : Fr) (n' : Nat) (H' : Heap), f 2 = .bool false → Kp (n + 1) H1 n' H' → Fin Tryz.prog Tryz.f10.results.toList n H (fun v _ _ => ∃ t, v = .bool t ∧ (t = true → RightX g)) .ret ⟨f, n', H'⟩ :=
    fun f n' H' hf k => ⟨Or.inr rfl, [f 2], rfl, (hk.trans k).keep, false, hf, fun h => by cases h⟩
  by_cases hA : (g.vars.length : Int) < 1
  · repeat (first | refine qqm rfl ?_ | ((first | refine qqr ?_ | refine qqt ?_); simp only [SS, qx0, vun, simprocAttr, hb, gc_0, gc_1, gc_2, hA, ff_10]))
    exact WK.retNil (bad _ _ _ rfl (Kp.refl _ _))
  by_cases hB : (64 : Int) < g.vars.length
  · repeat (first | refine qqm rfl ?_ | ((first | refine qqr ?_ | refine qqt ?_); simp only [SS, qx0, vun, simprocAttr, hb, gc_0, gc_1, gc_2, hA, hB, ff_10]))
    exact WK.retNil (bad _ _ _ rfl (Kp.refl _ _))
  by_cases hC : (64 : Int) < g.terms.length
  · repeat (first | refine qqm rfl ?_ | ((first | refine qqr ?_ | refine qqt ?_); simp only [SS, qx0, vun, simprocAttr, hb, gc_0, gc_1, gc_2, hA, hB, hC, ff_10]))
    exact WK.retNil (bad _ _ _ rfl (Kp.refl _ _))
  by_cases hD : (256 : Int) < g.rules.length
  · repeat (first | refine qqm rfl ?_ | ((first | refine qqr ?_ | refine qqt ?_); simp only [SS, qx0, vun, simprocAttr, hb, gc_0, gc_1, gc_2, hA, hB, hC, hD, ff_10]))
    exact WK.retNil (bad _ _ _ rfl (Kp.refl _ _))
  repeat (first | refine qqm rfl ?_ | ((first | refine qqr ?_ | refine qqt ?_); simp only [SS, qx0, vun, simprocAttr, hb, gc_0, gc_1, gc_2, hA, hB, hC, hD, ff_10]))
  refine WK.loop (fun k s => ∃ j, s.n = n + 1 ∧ s.H = H1 ∧ s.f 1 = .pointer (some ⟨n, 0, none⟩) ∧ s.f 3 = .int .i64 (j : Nat) ∧ j ≤ g.vars.length ∧ k = g.vars.length - j ∧ ∀ (i : Nat) (h : i < g.vars.length), i < j → NB g.vars[i] ∧ place g.vars g.vars[i] 0 = i) g.vars.length ?_ ?_
  · exact ⟨0, rfl, rfl, rfl, rfl, Nat.zero_le _, rfl, fun _ _ h => absurd h (Nat.not_lt_zero _)⟩
  rintro kk ⟨f, n', H'⟩ ⟨j, rfl, rfl, f1, f3, hj, rfl, hnm⟩ ih
  simp only at f1 f3 ih hb hw1 hg1 hk bad
  obtain ⟨pt', pv', pr', e', ht1, hv1, hr1⟩ := hg1
  obtain ⟨rfl, rfl, rfl⟩ : pt = pt' ∧ pv = pv' ∧ pr = pr' := by simpa [gcells] using e'
  by_cases hjr : j < g.vars.length
  · obtain ⟨x, k, cs, ty, own, rfl, hx, e⟩ := hv1.at hjr
    repeat (first | refine qqm rfl ?_ | ((first | refine qqr ?_ | refine qqt ?_); simp only [SS, qx0, vun, simprocAttr, f1, f3, hb, gc_0, gc_1, gc_2, hjr, hx, e, ff_10]))
    refine AtCall.by (isName_gives _ _ _) ?_
    rintro v n' H' hk' ⟨⟨t, rfl, hnb⟩, rfl, rfl⟩
    cases t
    · simp only [SS, qx0, vun, simprocAttr, hb, hx, f1, f3, ff_10]
      repeat (first | refine qqm rfl ?_ | ((first | refine qqr ?_ | refine qqt ?_); simp only [SS, qx0, vun, simprocAttr, hb, hx, f1, f3, ff_10]))
      exact WK.retNil (bad _ _ _ rfl (Kp.refl _ _))
    · simp only [SS, qx0, vun, simprocAttr, f1, f3, hb, gc_0, gc_1, gc_2, hjr, hx, e, ff_10]
      refine AtCall.by (place_gives hv1 wg.vars) ?_
      rintro v n' H' hk' ⟨rfl, rfl, rfl⟩
      by_cases hP : place g.vars g.vars[j] 0 = j
      · have hnm' : ∀ (i : Nat) (h : i < g.vars.length), i < j + 1 → NB g.vars[i] ∧ place g.vars g.vars[i] 0 = i := fun i h hi => by
          by_cases hij : i = j
          · subst hij; exact ⟨hnb rfl, hP⟩
          · exact hnm i h (by omega)
        simp only [SS, qx0, vun, simprocAttr, f1, f3, hP, ff_10]
        repeat (first | refine qqm rfl ?_ | ((first | refine qqr ?_ | refine qqt ?_); simp only [SS, qx0, vun, simprocAttr, f1, f3, hP, ff_10]))
        refine ih (g.vars.length - (j + 1)) (by omega) _ ⟨j + 1, rfl, rfl, f1, ?_, hjr, rfl, hnm'⟩
        simp only [packed, qv, Nat.reduceEqDiff, ↓reduceIte, f3, ff_10]
        rw [wrap_in (by omega) (by omega)]; rfl
      · simp only [SS, qx0, vun, simprocAttr, f1, f3, hP, ff_10]
        repeat (first | refine qqm rfl ?_ | ((first | refine qqr ?_ | refine qqt ?_); simp only [SS, qx0, vun, simprocAttr, f1, f3, hP, ff_10]))
        exact WK.retNil (bad _ _ _ rfl (Kp.refl _ _))
  · replace hnm := fun i h => hnm i h (by omega)
    repeat (first | refine qqm rfl ?_ | ((first | refine qqr ?_ | refine qqt ?_); simp only [SS, qx0, vun, simprocAttr, f1, f3, hb, gc_0, gc_1, gc_2, hjr, ff_10]))
    clear ih f3
    refine WK.loop (fun k s => ∃ j, s.n = n + 1 ∧ s.H = H' ∧ s.f 1 = .pointer (some ⟨n, 0, none⟩) ∧ s.f 4 = .int .i64 (j : Nat) ∧ j ≤ g.terms.length ∧ k = g.terms.length - j ∧ ∀ (i : Nat) (h : i < g.terms.length), i < j → QB g.terms[i] ∧ ∀ (q : Nat) (hq : q < g.terms.length), i = q + 1 → Op.bytesLess g.terms[q].toList g.terms[i].toList = true) g.terms.length ?_ ?_
    · exact ⟨0, rfl, rfl, f1, rfl, Nat.zero_le _, rfl, fun _ _ h => absurd h (Nat.not_lt_zero _)⟩
    rintro kk ⟨f, n', H'⟩ ⟨j, rfl, rfl, f1, f4, hj, rfl, hqt⟩ ih
    simp only at f1 f4 ih hb hw1 ht1 hv1 hr1 hk bad
    by_cases hjr : j < g.terms.length
    · obtain ⟨x, k, cs, ty, own, rfl, hx, e⟩ := ht1.at hjr
      have hsz := wg.size g.terms[j] (List.mem_append_left _ (List.getElem_mem hjr))
      repeat (first | refine qqm rfl ?_ | ((first | refine qqr ?_ | refine qqt ?_); simp only [SS, qx0, vun, simprocAttr, f1, f4, hb, gc_0, gc_1, gc_2, hjr, hx, e, ff_10]))
      refine AtCall.by (isQuote_gives _ hsz _ _) ?_
      rintro v n' H' hk' ⟨⟨t, rfl, hqb⟩, rfl, rfl⟩
      cases t
      · simp only [SS, qx0, vun, simprocAttr, hb, hx, f1, f4, ff_10]
        repeat (first | refine qqm rfl ?_ | ((first | refine qqr ?_ | refine qqt ?_); simp only [SS, qx0, vun, simprocAttr, hb, hx, f1, f4, ff_10]))
        exact WK.retNil (bad _ _ _ rfl (Kp.refl _ _))
      · by_cases hj0 : (0 : Int) < j
        · have hw' : IntKind.i64.wrap ((j : Int) - 1) = ((j - 1 : Nat) : Int) := by rw [wrap_in (by omega) (by omega)]; omega
          have hj' : j - 1 < g.terms.length := by omega
          obtain ⟨x', k', cs', ty', own', e', hx', e2⟩ := ht1.at hj'
          cases e'
          rw [hx] at hx'
          cases hx'
          by_cases hL : (!Op.bytesLess g.terms[j - 1].toList g.terms[j].toList) = true
          · simp only [SS, qx0, vun, simprocAttr, f1, f4, hb, gc_0, gc_1, gc_2, hjr, hx, e, hj0, hw', hj', e2, hL, ff_10]
            repeat (first | refine qqm rfl ?_ | ((first | refine qqr ?_ | refine qqt ?_); simp only [SS, qx0, vun, simprocAttr, f1, f4, hL, ff_10]))
            exact WK.retNil (bad _ _ _ rfl (Kp.refl _ _))
          · have hL : (!Op.bytesLess g.terms[j - 1].toList g.terms[j].toList) = false := by simpa using hL
            have hqt' : ∀ (i : Nat) (h : i < g.terms.length), i < j + 1 → QB g.terms[i] ∧ ∀ (q : Nat) (hq : q < g.terms.length), i = q + 1 → Op.bytesLess g.terms[q].toList g.terms[i].toList = true := fun i h hi => by
              by_cases hij : i = j
              · subst hij
                refine ⟨hqb rfl, fun q hq hiq => ?_⟩
                subst hiq
                simpa using hL
              · exact hqt i h (by omega)
            simp only [SS, qx0, vun, simprocAttr, f1, f4, hb, gc_0, gc_1, gc_2, hjr, hx, e, hj0, hw', hj', e2, hL, ff_10]
            repeat (first | refine qqm rfl ?_ | ((first | refine qqr ?_ | refine qqt ?_); simp only [SS, qx0, vun, simprocAttr, f1, f4, hL, ff_10]))
            refine ih (g.terms.length - (j + 1)) (by omega) _ ⟨j + 1, rfl, rfl, f1, ?_, hjr, rfl, hqt'⟩
            simp only [packed, qv, Nat.reduceEqDiff, ↓reduceIte, f4, ff_10]
            rw [wrap_in (by omega) (by omega)]; rfl
        · have hqt' : ∀ (i : Nat) (h : i < g.terms.length), i < j + 1 → QB g.terms[i] ∧ ∀ (q : Nat) (hq : q < g.terms.length), i = q + 1 → Op.bytesLess g.terms[q].toList g.terms[i].toList = true := fun i h hi => by
            by_cases hij : i = j
            · subst hij
              exact ⟨hqb rfl, fun q hq hiq => by omega⟩
            · exact hqt i h (by omega)
          simp only [SS, qx0, vun, simprocAttr, f1, f4, hb, gc_0, gc_1, gc_2, hjr, hx, e, hj0, ff_10]
          repeat (first | refine qqm rfl ?_ | ((first | refine qqr ?_ | refine qqt ?_); simp only [SS, qx0, vun, simprocAttr, f1, f4, ff_10]))
          refine ih (g.terms.length - (j + 1)) (by omega) _ ⟨j + 1, rfl, rfl, f1, ?_, hjr, rfl, hqt'⟩
          simp only [packed, qv, Nat.reduceEqDiff, ↓reduceIte, f4, ff_10]
          rw [wrap_in (by omega) (by omega)]; rfl
    · replace hqt := fun i h => hqt i h (by omega)
      repeat (first | refine qqm rfl ?_ | ((first | refine qqr ?_ | refine qqt ?_); simp only [SS, qx0, vun, simprocAttr, f1, f4, hb, gc_0, gc_1, gc_2, hjr, ff_10]))
      clear ih f4
      have hb0 := hb
      have hw0 := hw1
      have hg1 : RG H' (.agg (gcells pt pv pr g).toArray) g := ⟨pt, pv, pr, rfl, ht1, hv1, hr1⟩
      have kl : ∀ {n2 : Nat} {H2 : Heap}, Kp (n + 1) H' n2 H2 → H2 n = .cells (gcells pt pv pr g) 25 true ∧ WF n2 H2 ∧ RG H2 (.agg (gcells pt pv pr g).toArray) g :=
        fun k => ⟨(k.keep n (by omega)).trans hb, k.wf hw1, hg1.mono hw1 k⟩
      refine WK.loop (fun k s => ∃ j, Kp (n + 1) H' s.n s.H ∧ s.f 1 = .pointer (some ⟨n, 0, none⟩) ∧ s.f 5 = .int .i64 (j : Nat) ∧ j ≤ g.rules.length ∧ k = g.rules.length - j ∧ ∀ (i : Nat) (h : i < g.rules.length), i < j → RuleOK g i g.rules[i] ∧ RuleUn g i g.rules[i]) g.rules.length ?_ ?_
      · exact ⟨0, Kp.refl _ _, f1, rfl, Nat.zero_le _, rfl, fun i h hi => by omega⟩
      rintro kk ⟨f, n2, H2⟩ ⟨j, kp, f1, f5, hj, rfl, hru⟩ ih
      simp only at f1 f5 ih kp
      obtain ⟨hb2, hw2, hg2⟩ := kl kp
      by_cases hjr : j < g.rules.length
      · repeat (first | refine qqm rfl ?_ | ((first | refine qqr ?_ | refine qqt ?_); simp only [SS, qx0, vun, simprocAttr, f1, f5, hb2, gc_0, gc_1, gc_2, gc_len, gc_all, hjr, ff_10]))
        refine AtCall.by (rule_gives hw2 hg2 wg hjr) ?_
        rintro v n3 H3 hk3 ⟨t, rfl, hrule⟩
        have kp3 := kp.trans hk3
        cases t
        · simp only [SS, qx0, vun, simprocAttr, f1, f5, ff_10]
          repeat (first | refine qqm rfl ?_ | ((first | refine qqr ?_ | refine qqt ?_); simp only [SS, qx0, vun, simprocAttr, f1, f5, ff_10]))
          exact WK.retNil (bad _ _ _ rfl kp3)
        · simp only [SS, qx0, vun, simprocAttr, f1, f5, ff_10]
          repeat (first | refine qqm rfl ?_ | ((first | refine qqr ?_ | refine qqt ?_); simp only [SS, qx0, vun, simprocAttr, f1, f5, ff_10]))
          refine ih (g.rules.length - (j + 1)) (by omega) _ ⟨j + 1, kp3, f1, ?_, hjr, rfl, fun i h hi => ?_⟩
          · simp only [packed, qv, Nat.reduceEqDiff, ↓reduceIte, f5, ff_10]
            rw [wrap_in (by omega) (by omega)]; rfl
          · rcases Nat.lt_or_ge i j with h1 | h1
            · exact hru i h h1
            · have : i = j := by omega
              subst this; exact hrule rfl
      · repeat (first | refine qqm rfl ?_ | ((first | refine qqr ?_ | refine qqt ?_); simp only [SS, qx0, vun, simprocAttr, f1, f5, hb2, gc_0, gc_1, gc_2, hjr, ff_10]))
        clear ih f5 hw2 hg2 hb2
        refine WK.loop (fun k s => ∃ j, Kp (n + 1) H' s.n s.H ∧ s.f 1 = .pointer (some ⟨n, 0, none⟩) ∧ s.f 6 = .int .i64 (j : Nat) ∧ j ≤ g.vars.length ∧ k = g.vars.length - j ∧ ∀ i : Nat, i < j → countR g.rules i ≠ 0) g.vars.length ?_ ?_
        · exact ⟨0, kp, f1, rfl, Nat.zero_le _, rfl, fun i hi => by omega⟩
        rintro kk ⟨f, n2, H2⟩ ⟨j2, kp, f1, f6, hj2, rfl, hcn⟩ ih
        simp only at f1 f6 ih kp
        obtain ⟨hb2, hw2, hg2⟩ := kl kp
        by_cases hjv : j2 < g.vars.length
        · repeat (first | refine qqm rfl ?_ | ((first | refine qqr ?_ | refine qqt ?_); simp only [SS, qx0, vun, simprocAttr, f1, f6, hb2, gc_0, gc_1, gc_2, gc_len, gc_all, hjv, ff_10]))
          refine AtCall.by (count_gives hw2 hg2 wg) ?_
          rintro v n3 H3 hk3 rfl
          have kp3 := kp.trans hk3
          by_cases hz : ((countR g.rules j2 : Nat) : Int) = 0
          · simp only [SS, qx0, vun, simprocAttr, f1, f6, hz, ff_10]
            repeat (first | refine qqm rfl ?_ | ((first | refine qqr ?_ | refine qqt ?_); simp only [SS, qx0, vun, simprocAttr, f1, f6, ff_10]))
            exact WK.retNil (bad _ _ _ rfl kp3)
          · simp only [SS, qx0, vun, simprocAttr, f1, f6, hz, ff_10]
            repeat (first | refine qqm rfl ?_ | ((first | refine qqr ?_ | refine qqt ?_); simp only [SS, qx0, vun, simprocAttr, f1, f6, ff_10]))
            refine ih (g.vars.length - (j2 + 1)) (by omega) _ ⟨j2 + 1, kp3, f1, ?_, hjv, rfl, fun i hi => ?_⟩
            · simp only [packed, qv, Nat.reduceEqDiff, ↓reduceIte, f6, ff_10]
              rw [wrap_in (by omega) (by omega)]; rfl
            · rcases Nat.lt_or_ge i j2 with h1 | h1
              · exact hcn i h1
              · have : i = j2 := by omega
                subst this; omega
        · repeat (first | refine qqm rfl ?_ | ((first | refine qqr ?_ | refine qqt ?_); simp only [SS, qx0, vun, simprocAttr, f1, f6, hb2, gc_0, gc_1, gc_2, hjv, ff_10]))
          clear ih f6 hw2 hg2 hb2
          refine WK.loop (fun k s => ∃ j, Kp (n + 1) H' s.n s.H ∧ s.f 1 = .pointer (some ⟨n, 0, none⟩) ∧ s.f 7 = .int .i64 (j : Nat) ∧ j ≤ g.terms.length ∧ k = g.terms.length - j ∧ ∀ t : Nat, t < j → usesR g.rules (-(t : Int) - 1) = true) g.terms.length ?_ ?_
          · exact ⟨0, kp, f1, rfl, Nat.zero_le _, rfl, fun _ h => absurd h (Nat.not_lt_zero _)⟩
          rintro kk ⟨f, n2, H2⟩ ⟨j3, kp, f1, f7, hj3, rfl, hus⟩ ih
          simp only at f1 f7 ih kp
          obtain ⟨hb2, hw2, hg2⟩ := kl kp
          by_cases hjt : j3 < g.terms.length
          · have hn := bnot_i64 (n := (j3 : Int)) (by omega) (by omega)
            repeat (first | refine qqm rfl ?_ | ((first | refine qqr ?_ | refine qqt ?_); simp only [SS, qx0, vun, simprocAttr, f1, f7, hb2, gc_0, gc_1, gc_2, gc_len, gc_all, hjt, hn, ff_10]))
            refine AtCall.by (uses_gives hw2 hg2 wg) ?_
            rintro v n3 H3 hk3 rfl
            have kp3 := kp.trans hk3
            cases hu : usesR g.rules (-(j3 : Int) - 1)
            · simp only [SS, qx0, vun, simprocAttr, f1, f7, ff_10]
              repeat (first | refine qqm rfl ?_ | ((first | refine qqr ?_ | refine qqt ?_); simp only [SS, qx0, vun, simprocAttr, f1, f7, ff_10]))
              exact WK.retNil (bad _ _ _ rfl kp3)
            · have hus' : ∀ t : Nat, t < j3 + 1 → usesR g.rules (-(t : Int) - 1) = true := fun t ht => by
                by_cases e : t = j3
                · subst e; exact hu
                · exact hus t (by omega)
              simp only [SS, qx0, vun, simprocAttr, f1, f7, ff_10]
              repeat (first | refine qqm rfl ?_ | ((first | refine qqr ?_ | refine qqt ?_); simp only [SS, qx0, vun, simprocAttr, f1, f7, ff_10]))
              refine ih (g.terms.length - (j3 + 1)) (by omega) _ ⟨j3 + 1, kp3, f1, ?_, hjt, rfl, hus'⟩
              simp only [packed, qv, Nat.reduceEqDiff, ↓reduceIte, f7, ff_10]
              rw [wrap_in (by omega) (by omega)]; rfl
          · repeat (first | refine qqm rfl ?_ | ((first | refine qqr ?_ | refine qqt ?_); simp only [SS, qx0, vun, simprocAttr, f1, f7, hb2, gc_0, gc_1, gc_2, hjt, ff_10]))
            first | refine qqf ?_ ?_ | refine qqg ?_ ?_
            · exact (hk.trans kp).keep
            · exact ⟨true, rfl, fun _ => ⟨⟨by omega, by omega, by omega, by omega, fun i h => (hru i h (by omega)).1, fun v hv => hcn v (by omega)⟩, hnm, hqt, fun t ht => hus t (by omega), fun i h => (hru i h (by omega)).2⟩⟩
end Go.Proofs.YtihjaobjhmmboaaGreatDoor

namespace Go.Proofs.YtihjaobjhmmboaaGreatDoor
open Go.AM
set_option maxRecDepth 100000
theorem count_set_lt {hs : List Bool} {i : Nat} (hi : i < hs.length) (h : hs[i] = false) : (hs.set i true).count false < hs.count false := by
 have h1 : 0 < hs.count false := List.count_pos_iff.2 (h ▸ List.getElem_mem hi)
 rw [List.count_set hi, h]
 simp
 omega
set_option maxHeartbeats 4000000 in
theorem fix_gives {v : Value} {g : Gram} {n0 n : Nat} {H0 H : Heap} {x F : Nat} {hs : List Bool} {captured : List Value} (rb : GRule → List Bool → Bool) (hw0 : WF n0 H0) (hg : RG H0 v g) (wg : WG g) (k0 : Kp n0 H0 n H) (hx0 : n0 ≤ x)
  (hlen : hs.length ≤ maxL) (hx : H x = .cells (hs.map .bool) 4 true) (hxn : x < n) (hleft : ∀ r ∈ g.rules, 0 ≤ r.left ∧ r.left < hs.length)
  (hrule : ∀ n1 H1 (hs1 : List Bool), WF n1 H1 → Kx (fun z => z = x) n H n1 H1 → hs1.length = hs.length → H1 x = .cells (hs1.map .bool) 4 true → ∀ r ∈ g.rules, ∀ p, RA (Value.int .i64) H1 p r.right →
   Gives Tryz.prog F (.agg #[.int .i64 r.left, .slice p r.right.length r.right.length, .float .f64 r.weight] :: captured) n1 H1 fun v _ _ => v = .bool (rb r hs1)) :
  GivesX Tryz.prog (fun z => z = x) 40 [v, .slice (some ⟨x, 0, none⟩) hs.length hs.length, .func (.func F) #[] captured.toArray] n H fun v n' H' => v = .slice (some ⟨x, 0, none⟩) hs.length hs.length ∧ ∃ hs', H' x = .cells (hs'.map .bool) 4 true ∧ hs'.length = hs.length ∧
   Der rb g.rules hs hs' ∧ ∀ r ∈ g.rules, hs'.getD r.left.toNat false = true ∨ rb r hs' = false := by
 have hg' := hg
 obtain ⟨pt, pv, pr, rfl, ht, hv, hr⟩ := hg
 refine GivesX.of orders ok40 (Nat.le_of_ble_eq_true rfl) ?_
 have hk := Kp.new n H (.cells (gcells pt pv pr g) 25 true)
 have hb := hset_at H n (.cells (gcells pt pv pr g) 25 true)
 have wr := wg.rules
 unfold maxL at hlen wr
 repeat refine qqn rfl ?_
 (refine qqr ?_; simp only [SS, qx4, vun, simprocAttr, box_cells, box_one, ff_40])
 replace hx := (hk.keep x hxn).trans hx
 generalize hset H n (.cells (gcells pt pv pr g) 25 true) = H1 at *
 repeat (first | refine qqm rfl ?_ | ((first | refine qqr ?_ | refine qqt ?_); simp only [SS, qx4, vun, simprocAttr, hb, ff_40]))
 refine WK.loop (fun k s => ∃ (b : Bool) (hs1 : List Bool), Kx (fun z => z = x) (n + 1) H1 s.n s.H ∧ s.f 1 = .slice (some ⟨x, 0, none⟩) hs.length hs.length ∧ s.f 2 = .func (.func F) #[] captured.toArray ∧ s.f 3 = .pointer (some ⟨n, 0, none⟩) ∧ s.f 7 = .bool b ∧
  s.H x = .cells (hs1.map .bool) 4 true ∧ hs1.length = hs.length ∧ Der rb g.rules hs hs1 ∧ (b = false → ∀ r ∈ g.rules, hs1.getD r.left.toNat false = true ∨ rb r hs1 = false) ∧ k = hs1.count false + (if b then 1 else 0)) (hs.count false + 1) ?_ ?_
 ·exact ⟨true, hs, Kx.refl _ _ _, rfl, rfl, rfl, rfl, hx, rfl, .refl, (fun h => by cases h), rfl⟩
 rintro kk ⟨f, n2, H2⟩ ⟨b, hs1, kx, f1, f2, f3, f7, hx2, hl1, hd, hc, rfl⟩ ih
 simp only at f1 f2 f3 f7 ih kx hx2
 have hnx : n ≠ x := by omega
 cases b
 ·repeat (first | refine qqm rfl ?_ | ((first | refine qqr ?_ | refine qqt ?_); simp only [SS, qx4, vun, simprocAttr, f1, f7, ff_40]))
  repeat refine qqn rfl ?_
  refine WK.retNil ⟨Or.inr rfl, _, rfl, fun y hy hyx => ?_, ?_⟩
  ·exact (kx.keep y (by omega) hyx).trans (hk.keep y hy)
  ·simp only [packed, qv, Nat.reduceEqDiff, ↓reduceIte, f1, ff_40]
   exact ⟨trivial, hs1, hx2, hl1, hd, hc rfl⟩
 ·have hb2 := (kx.keep n (by omega) hnx).trans hb
  repeat (first | refine qqm rfl ?_ | ((first | refine qqr ?_ | refine qqt ?_); simp only [SS, qx4, vun, simprocAttr, f1, f7, f3, hb2, gc_2, ff_40]))
  have hle2 := kx.le
  refine WK.loop (fun k s => ∃ (j : Nat) (b : Bool) (hs2 : List Bool), Kx (fun z => z = x) (n + 1) H1 s.n s.H ∧ s.f 1 = .slice (some ⟨x, 0, none⟩) hs.length hs.length ∧ s.f 2 = .func (.func F) #[] captured.toArray ∧ s.f 3 = .pointer (some ⟨n, 0, none⟩) ∧ s.f 7 = .bool b ∧
   s.f 12 = .slice pr g.rules.length g.rules.length ∧ s.f 13 = .int .i64 g.rules.length ∧ s.f 14 = .int .i64 (j : Nat) ∧ j ≤ g.rules.length ∧
   s.H x = .cells (hs2.map .bool) 4 true ∧ hs2.length = hs.length ∧ Der rb g.rules hs hs2 ∧ (b = false → hs2 = hs1 ∧ ∀ (i : Nat) (h : i < g.rules.length), i < j → hs2.getD g.rules[i].left.toNat false = true ∨ rb g.rules[i] hs2 = false) ∧ (b = true → hs2.count false < hs1.count false) ∧ k = g.rules.length - j) g.rules.length ?_ ?_
  ·exact ⟨0, false, hs1, kx, f1, f2, f3, rfl, rfl, rfl, rfl, Nat.zero_le _, hx2, hl1, hd, (fun _ => ⟨rfl, fun i h hi => by omega⟩), (fun h => by cases h), rfl⟩
  rintro kk ⟨f', n3, H3⟩ ⟨j, b, hs2, kx3, g1, g2, g3, g7, g12, g13, g14, hj, hx3, hl3, hd3, hc3, hc4, rfl⟩ ih2
  simp only at g1 g2 g3 g7 g12 g13 g14 ih2 kx3 hx3
  by_cases hjr : j < g.rules.length
  ·have kk3 : Kp n0 H0 n3 H3 := ⟨by have := kx3.le; have := k0.le; omega, fun y hy => ((kx3.keep y (by have := k0.le; omega) (by omega)).trans (hk.keep y (by have := k0.le; omega))).trans (k0.keep y hy), fun h => kx3.wf (hk.wf (k0.wf h))⟩
   have hr3 := hr.mono hw0 kk3
   have hw3 := kk3.wf hw0
   obtain ⟨z, k, cs, ty, own, p, e0, hz, c0, c1, c2, hp⟩ := hr3.at hjr
   have c3 := take3 c0 c1 c2
   have c4 := len3 c2
   have hzn : z < n3 := by
    apply Classical.byContradiction
    intro hc'
    rw [hw3 z (by omega)] at hz; cases hz
   subst e0
   have hm := List.getElem_mem hjr
   obtain ⟨l, hl⟩ : ∃ l : Nat, g.rules[j].left = l := ⟨g.rules[j].left.toNat, by have := (hleft _ hm).1; omega⟩
   have hll : l < hs.length := by have := (hleft _ hm).2; omega
   have hll2 : l < hs2.length := by omega
   have hxn3 : x ≠ n3 := by have := kx3.le; omega
   have hH : ∀ o, hset H3 n3 o x = .cells (hs2.map .bool) 4 true := fun o => (hset_ne _ _ _ hxn3).trans hx3
   have hget : (hs2.map Value.bool)[l]? = some (.bool hs2[l]) := by rw [List.getElem?_map, List.getElem?_eq_getElem hll2]; rfl
   have hgl : hs2.getD l false = hs2[l] := by rw [List.getD_eq_getElem?_getD, List.getElem?_eq_getElem hll2]; rfl
   have kn := Kp.new n3 H3 (.cells [.int .i64 (l : Nat), .slice p g.rules[j].right.length g.rules[j].right.length, .float .f64 g.rules[j].weight] 44 true)
   cases hbv : hs2[l]
   ·rw [hbv] at hget hgl
    repeat (first | refine qqm rfl ?_ | ((first | refine qqr ?_ | refine qqt ?_); simp only [SS, qx4, vun, simprocAttr, g1, g2, g12, g13, g14, hjr, hz, c3, c4, hl, hll, hH, hget, hset_hset, List.nil_append, List.cons_append, ff_40]))
    have hr' := hrule (n3 + 1) _ hs2 (kn.wf hw3) ((hk.kx.trans kx3).trans kn.kx) hl3 (hH _) _ hm p (hp.mono hw3 kn)
    rw [hl] at hr'
    refine AtCall.by hr' ?_
    rintro v n4 H4 hk4 rfl
    have hH4 : H4 x = .cells (hs2.map .bool) 4 true := (hk4.keep x (by have := kx3.le; omega)).trans (hH _)
    have hN4 := (hk4.keep n3 (by omega)).trans (hset_at _ _ _)
    have kx4 := (kx3.trans kn.kx).trans hk4.kx
    cases hrb : rb g.rules[j] hs2
    ·simp only [SS, qx4, vun, simprocAttr, ff_40]
     repeat (first | refine qqm rfl ?_ | ((first | refine qqr ?_ | refine qqt ?_); simp only [SS, qx4, vun, simprocAttr, g14, ff_40]))
     refine ih2 (g.rules.length - (j + 1)) (by omega) _ ⟨j + 1, b, hs2, kx4, g1, g2, g3, g7, g12, g13, ?_, hjr, hH4, hl3, hd3, (fun h => ⟨(hc3 h).1, fun i hi hij => ?_⟩), hc4, rfl⟩
     ·simp only [packed, qv, Nat.reduceEqDiff, ↓reduceIte, g14, ff_40]
      rw [wrap_in (by omega) (by omega)]; rfl
     ·rcases Nat.lt_or_ge i j with h1 | h1
      ·exact (hc3 h).2 i hi h1
      ·have : i = j := by omega
       subst this
       exact .inr hrb
    ·simp only [SS, qx4, vun, simprocAttr, ff_40]
     have hll' : l + 1 ≤ hs.length := hll
     have hset' : (hs2.map Value.bool).set l (.bool true) = (hs2.set l true).map .bool := by rw [List.map_set]
     repeat (first | refine qqm rfl ?_ | ((first | refine qqr ?_ | refine qqt ?_); simp only [SS, qx4, vun, simprocAttr, g1, g14, hH4, hN4, hl, hll, hll', hset', List.length_map, hl3, ff_40]))
     refine ih2 (g.rules.length - (j + 1)) (by omega) _ ⟨j + 1, true, hs2.set l true, ?_, g1, g2, g3, rfl, g12, g13, ?_, hjr, hset_at _ _ _, by rw [List.length_set, hl3], ?_, (fun h => by cases h), (fun _ => ?_), rfl⟩
     ·exact kx4.set _ (.inl rfl) (by have := kx4.le; omega)
     ·simp only [packed, qv, Nat.reduceEqDiff, ↓reduceIte, g14, ff_40]
      rw [wrap_in (by omega) (by omega)]; rfl
     ·have := hd3.step _ hm hrb
      rw [hl] at this; exact this
     ·have := count_set_lt hll2 hbv
      cases b
      ·rw [(hc3 rfl).1] at this ⊢; exact this
      ·have := hc4 rfl; omega
   ·rw [hbv] at hget hgl
    repeat (first | refine qqm rfl ?_ | ((first | refine qqr ?_ | refine qqt ?_); simp only [SS, qx4, vun, simprocAttr, g1, g2, g12, g13, g14, hjr, hz, c3, c4, hl, hll, hH, hget, hset_hset, ff_40]))
    refine ih2 (g.rules.length - (j + 1)) (by omega) _ ⟨j + 1, b, hs2, kx3.trans kn.kx, g1, g2, g3, g7, g12, g13, ?_, hjr, hH _, hl3, hd3, (fun h => ⟨(hc3 h).1, fun i hi hij => ?_⟩), hc4, rfl⟩
    ·simp only [packed, qv, Nat.reduceEqDiff, ↓reduceIte, g14, ff_40]
     rw [wrap_in (by omega) (by omega)]; rfl
    ·rcases Nat.lt_or_ge i j with h1 | h1
     ·exact (hc3 h).2 i hi h1
     ·have : i = j := by omega
      subst this
      rw [hl]; exact .inl hgl
  ·repeat (first | refine qqm rfl ?_ | ((first | refine qqr ?_ | refine qqt ?_); simp only [SS, qx4, vun, simprocAttr, g12, g13, g14, hjr, ff_40]))
   refine ih _ ?_ _ ⟨b, hs2, kx3, g1, g2, g3, g7, hx3, hl3, hd3, (fun h r hr => ?_), rfl⟩
   ·cases b
    ·rw [(hc3 rfl).1]; simp
    ·have := hc4 rfl; simp; omega
   ·obtain ⟨i, hi, rfl⟩ := List.getElem_of_mem hr
    exact (hc3 h).2 i hi (by omega)
end Go.Proofs.YtihjaobjhmmboaaGreatDoor

namespace Go.Proofs.YtihjaobjhmmboaaGreatDoor
open Go.AM
set_option maxRecDepth 100000
end Go.Proofs.YtihjaobjhmmboaaGreatDoor

namespace Go.Proofs.YtihjaobjhmmboaaGreatDoor
open Go.AM
set_option maxRecDepth 100000
theorem RightOK.inG {g : Gram} (h : RightOK g) : InG g := by
 refine ⟨fun r hr => ?_, fun r hr => ?_, fun r hr s hs => ?_, fun r hr s hs => ?_⟩ <;> obtain ⟨i, hi, rfl⟩ := List.getElem_of_mem hr
 ·exact (h.rule i hi).left0
 ·exact (h.rule i hi).left1
 ·exact ((h.rule i hi).sym s hs).1
 ·exact ((h.rule i hi).sym s hs).2
theorem rep_map (l : Nat) : rep l [Value.bool false] = (List.replicate l false).map .bool := by
 induction l with
 | zero => rfl
 | succ l ih => rw [List.replicate_succ, List.map_cons, ← ih]; rfl
end Go.Proofs.YtihjaobjhmmboaaGreatDoor
