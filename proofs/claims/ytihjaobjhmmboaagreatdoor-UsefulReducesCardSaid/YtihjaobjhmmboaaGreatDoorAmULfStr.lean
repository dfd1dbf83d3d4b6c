/- A part of a proof. Its conditions: none. -/
import Derived.Test.YtihjaobjhmmboaaGreatDoorAmUFacts
import Derived.Test.YtihjaobjhmmboaaGreatDoorAmC
import Derived.Test.YtihjaobjhmmboaaGreatDoorAmD
import Derived.Test.YtihjaobjhmmboaaGreatDoorAmULfTold
set_option linter.all false
namespace Go.Proofs.YtihjaobjhmmboaaGreatDoor
open Go.AM
set_option maxRecDepth 100000
def less : List Int → List Int → Bool
 | a :: x, b :: y => if a = b then less x y else decide (a < b)
 | x, y => decide (x.length < y.length)
theorem less_gives {pa pb : Option Addr} {a b : List Int} {n : Nat} {H : Heap} (ha : RA (Value.int .i64) H pa a) (hb : RA (Value.int .i64) H pb b) (hal : a.length ≤ maxL) :
  Gives Tryz.prog 39 [.slice pa a.length a.length, .slice pb b.length b.length] n H fun v n' H' => v = .bool (less a b) ∧ n' = n ∧ H' = H := by
 refine Gives.of orders ok39 (Nat.le_of_ble_eq_true rfl) ?_
 repeat (first | refine qqm rfl ?_ | ((first | refine qqr ?_ | refine qqt ?_); simp only [SS, qx36, simprocAttr, ff_39]))
 refine WK.loop (fun k s => ∃ i, s.n = n ∧ s.H = H ∧ s.f 0 = .slice pa a.length a.length ∧ s.f 1 = .slice pb b.length b.length ∧ s.f 5 = .int .i64 (i : Nat) ∧ i ≤ a.length ∧ i ≤ b.length ∧ k = a.length - i ∧ less (a.drop i) (b.drop i) = less a b) a.length ?_ ?_
 ·exact ⟨0, rfl, rfl, rfl, rfl, rfl, Nat.zero_le _, Nat.zero_le _, rfl, rfl⟩
 rintro k ⟨f, n', H'⟩ ⟨i, rfl, rfl, h0, h1, h5, hi1, hi2, rfl, hl⟩ ih
 simp only at h0 h1 h5 ih ha hb
 by_cases hia : i < a.length
 ·by_cases hib : i < b.length
  ·obtain ⟨x, k, cs, ty, own, rfl, hx, ha'⟩ := ha (by intro e; simp [e] at hia)
   obtain ⟨y, l, ds, tz, pwn, rfl, hy, hb'⟩ := hb (by intro e; simp [e] at hib)
   have e1 := ha' i _ (List.getElem?_eq_getElem hia)
   have e2 := hb' i _ (List.getElem?_eq_getElem hib)
   have d1 : a.drop i = a[i] :: a.drop (i + 1) := List.drop_eq_getElem_cons hia
   have d2 : b.drop i = b[i] :: b.drop (i + 1) := List.drop_eq_getElem_cons hib
   by_cases he : a[i] = b[i]
   ·repeat (first | refine qqm rfl ?_ | ((first | refine qqr ?_ | refine qqt ?_); simp only [SS, qx36, simprocAttr, h0, h1, h5, hia, hib, hx, hy, e1, e2, he, ff_39]))
    refine ih (a.length - (i + 1)) (by omega) _ ⟨i + 1, rfl, rfl, h0, h1, ?_, hia, hib, rfl, ?_⟩
    ·simp only [packed, qv, Nat.reduceEqDiff, ↓reduceIte, ff_39]
     unfold maxL at hal; rw [wrap_in (by omega) (by omega)]; rfl
    ·rw [← hl, d1, d2, less, if_pos he]
   ·repeat (first | refine qqm rfl ?_ | ((first | refine qqr ?_ | refine qqt ?_); simp only [SS, qx36, simprocAttr, h0, h1, h5, hia, hib, hx, hy, e1, e2, he, ff_39]))
    first | refine qqf ?_ ?_ | refine qqg ?_ ?_
    ·exact fun _ _ => rfl
    ·simp only [packed, qv, Nat.reduceEqDiff, ↓reduceIte, ff_39]
     rw [← hl, d1, d2, less, if_neg he]; trivial
  ·repeat (first | refine qqm rfl ?_ | ((first | refine qqr ?_ | refine qqt ?_); simp only [SS, qx36, simprocAttr, h0, h1, h5, hia, hib, ff_39]))
   first | refine qqf ?_ ?_ | refine qqg ?_ ?_
   ·exact fun _ _ => rfl
   ·simp only [packed, qv, Nat.reduceEqDiff, ↓reduceIte, ff_39]
    rw [← hl, List.drop_eq_nil_of_le (show b.length ≤ i by omega)]
    simp [less]; omega
 ·repeat (first | refine qqm rfl ?_ | ((first | refine qqr ?_ | refine qqt ?_); simp only [SS, qx36, simprocAttr, h0, h1, h5, hia, ff_39]))
  first | refine qqf ?_ ?_ | refine qqg ?_ ?_
  ·exact fun _ _ => rfl
  ·simp only [packed, qv, Nat.reduceEqDiff, ↓reduceIte, ff_39]
   rw [← hl, List.drop_eq_nil_of_le (show a.length ≤ i by omega)]
   simp [less]; omega
def same (a b : List Int) : Bool := !less a b && !less b a
theorem same_gives {pa pb : Option Addr} {a b : List Int} {n : Nat} {H : Heap} (ha : RA (Value.int .i64) H pa a) (hb : RA (Value.int .i64) H pb b) (hal : a.length ≤ maxL) (hbl : b.length ≤ maxL) :
  Gives Tryz.prog 12 [.slice pa a.length a.length, .slice pb b.length b.length] n H fun v n' H' => v = .bool (same a b) ∧ n' = n ∧ H' = H := by
 refine Gives.of orders ok12 (Nat.le_of_ble_eq_true rfl) ?_
 repeat (first | refine qqm rfl ?_ | ((first | refine qqr ?_ | refine qqt ?_); simp only [SS, qg0, vun, tpick, simprocAttr]))
 refine AtCall.by (less_gives ha hb hal) ?_
 rintro v n' H' hk ⟨rfl, rfl, rfl⟩
 cases h1 : less a b
 ·simp only [SS, qg0, vun, tpick, simprocAttr]
  refine AtCall.by (less_gives hb ha hbl) ?_
  rintro v n' H' hk ⟨rfl, rfl, rfl⟩
  simp only [SS, qg0, vun, tpick, simprocAttr]
  repeat (first | refine qqm rfl ?_ | ((first | refine qqr ?_ | refine qqt ?_); simp only [SS, qg0, vun, tpick, simprocAttr]))
  first | refine qqf ?_ ?_ | refine qqg ?_ ?_
  ·exact fun _ _ => rfl
  ·simp only [packed, qv, Nat.reduceEqDiff, ↓reduceIte, same, h1]
   simp
 ·simp only [SS, qg0, vun, tpick, simprocAttr]
  repeat (first | refine qqm rfl ?_ | ((first | refine qqr ?_ | refine qqt ?_); simp only [SS, qg0, vun, tpick, simprocAttr]))
  first | refine qqf ?_ ?_ | refine qqg ?_ ?_
  ·exact fun _ _ => rfl
  ·simp only [packed, qv, Nat.reduceEqDiff, ↓reduceIte, same, h1]
   simp
end Go.Proofs.YtihjaobjhmmboaaGreatDoor

namespace Go.Proofs.YtihjaobjhmmboaaGreatDoor
open Go.AM
set_option maxRecDepth 100000
structure RuleOK (g : Gram) (i : Nat) (r : GRule) : Prop where
 left0 : 0 ≤ r.left
 left1 : r.left < g.vars.length
 len : r.right.length ≤ 24
 sym : ∀ s ∈ r.right, s < g.vars.length ∧ (s < 0 → -s - 1 < g.terms.length)
 up : ∀ q, i = q + 1 → ∀ r', g.rules[q]? = some r' → r'.left ≤ r.left
 told : toldB r.weight
def RuleUn (g : Gram) (i : Nat) (r : GRule) : Prop := ∀ (q : Nat) (hq : q < g.rules.length), q < i → g.rules[q].left = r.left → same g.rules[q].right r.right = false
set_option maxHeartbeats 4000000 in
theorem rule_gives {v : Value} {g : Gram} {i : Nat} {n : Nat} {H : Heap} (hw : WF n H) (hg : RG H v g) (wg : WG g) (hi : i < g.rules.length) :
    Gives Tryz.prog 35 [v, .int .i64 i] n H fun v _ _ => ∃ t, v = .bool t ∧ (t = true → RuleOK g i g.rules[i] ∧ RuleUn g i g.rules[i]) := by
  obtain ⟨pt, pv, pr, rfl, ht, hv, hr⟩ := hg
  refine Gives.of orders ok35 (Nat.le_of_ble_eq_true rfl) ?_
  have hk := Kp.new n H (.cells (gcells pt pv pr g) 25 true)
  replace hr := hr.mono hw hk
  have hb := hset_at H n (.cells (gcells pt pv pr g) 25 true)
  repeat refine qqn rfl ?_
  (refine qqr ?_; simp only [SS, qx4, vun, simprocAttr, box_cells, box_one, ff_35])
  repeat refine qqn rfl ?_
  have hw1 := hk.wf hw
  generalize hset H n (.cells (gcells pt pv pr g) 25 true) = H1 at *
  obtain ⟨x, k, cs, ty, own, p, rfl, hx, c0, c1, c2, hp⟩ := hr.at hi
  have c3 := take3 c0 c1 c2
  have c4 := len3 c2
  (refine qqr ?_; simp only [SS, qx4, vun, simprocAttr, hb, gc_2, hi, hx, c3, c4, ff_35])
  repeat refine qqn rfl ?_
  obtain ⟨hrl, hri⟩ := wg.right _ (List.getElem_mem hi)
  have hll := wg.left _ (List.getElem_mem hi)
  have hww := wg.weight _ (List.getElem_mem hi)
  have hgl := wg.rules
  have hvl := wg.vars
  have htl := wg.terms
  unfold maxL at hrl hgl hvl htl
  unfold inI at hll
  have k2 := Kp.new (n + 1) H1 (.cells [.int .i64 g.rules[i].left, .slice p g.rules[i].right.length g.rules[i].right.length, .float .f64 g.rules[i].weight] 44 true)
  have ho := hset_at H1 (n + 1) (.cells [.int .i64 g.rules[i].left, .slice p g.rules[i].right.length g.rules[i].right.length, .float .f64 g.rules[i].weight] 44 true)
  replace hb := (k2.keep n (by omega)).trans hb
  replace hr := hr.mono hw1 k2
  replace hp := hp.mono hw1 k2
  replace hx : hset H1 (n + 1) (.cells [.int .i64 g.rules[i].left, .slice p g.rules[i].right.length g.rules[i].right.length, .float .f64 g.rules[i].weight] 44 true) x = .cells cs ty own :=
    (k2.keep x (by
      apply Classical.byContradiction
      intro hc
      rw [hw1 x (by omega)] at hx; cases hx)).trans hx
  replace hk : ∀ y, y < n → hset H1 (n + 1) (.cells [.int .i64 g.rules[i].left, .slice p g.rules[i].right.length g.rules[i].right.length, .float .f64 g.rules[i].weight] 44 true) y = H y :=
    fun y hy => (k2.keep y (by omega)).trans (hk.keep y hy)
  generalize hset H1 (n + 1) (.cells [.int .i64 g.rules[i].left, .slice p g.rules[i].right.length g.rules[i].right.length, .float .f64 g.rules[i].weight] 44 true) = H2 at *
  refine WK.unseq ?_
  refine WK.cutRet (fun s => s.n = n + 1 + 1 ∧ s.H = H2 ∧ s.f 1 = .int .i64 i ∧ s.f 2 = .pointer (some ⟨n, 0, none⟩) ∧ s.f 5 = .pointer (some ⟨n + 1, 0, none⟩) ∧ 0 ≤ g.rules[i].left ∧ g.rules[i].left < g.vars.length ∧ g.rules[i].right.length ≤ 24 ∧ (∀ q, i = q + 1 → ∀ r', g.rules[q]? = some r' → r'.left ≤ g.rules[i].left) ∧ toldB g.rules[i].weight) ?_ ?_
  · have bad : ∀ f : Fr, f 4 = .bool false → Fin Tryz.prog Tryz.f35.results.toList n H (fun v _ _ => ∃ t, v = .bool t ∧ (t = true → RuleOK g i g.rules[i] ∧ RuleUn g i g.rules[i])) .ret ⟨f, n + 1 + 1, H2⟩ :=
      fun f hf => ⟨Or.inr rfl, [f 4], rfl, hk, false, hf, fun h => by cases h⟩
    by_cases hA : g.rules[i].left < 0
    · repeat (first | refine qqm rfl ?_ | ((first | refine qqr ?_ | refine qqt ?_); simp only [SS, qx4, vun, simprocAttr, hb, ho, gc_1, gc_2, hA, ff_35]))
      exact WK.retNil (Or.inr ⟨rfl, bad _ rfl⟩)
    by_cases hB : (g.vars.length : Int) ≤ g.rules[i].left
    · repeat (first | refine qqm rfl ?_ | ((first | refine qqr ?_ | refine qqt ?_); simp only [SS, qx4, vun, simprocAttr, hb, ho, gc_1, gc_2, hA, hB, ff_35]))
      exact WK.retNil (Or.inr ⟨rfl, bad _ rfl⟩)
    by_cases hC : (0 : Int) < i
    · have hw' : IntKind.i64.wrap ((i : Int) - 1) = ((i - 1 : Nat) : Int) := by rw [wrap_in (by omega) (by omega)]; omega
      have hi' : i - 1 < g.rules.length := by omega
      obtain ⟨x', k', cs', ty', own', p', e', hx', d0, d1, d2, hp'⟩ := hr.at hi'
      cases e'
      rw [hx] at hx'
      cases hx'
      by_cases hD : g.rules[i].left < g.rules[i - 1].left
      · repeat (first | refine qqm rfl ?_ | ((first | refine qqr ?_ | refine qqt ?_); simp only [SS, qx4, vun, simprocAttr, hb, ho, hx, d0, gc_1, gc_2, hA, hB, hC, hw', hi', hD, ff_35]))
        exact WK.retNil (Or.inr ⟨rfl, bad _ rfl⟩)
      · by_cases hE : (24 : Int) < g.rules[i].right.length
        · repeat (first | refine qqm rfl ?_ | ((first | refine qqr ?_ | refine qqt ?_); simp only [SS, qx4, vun, simprocAttr, hb, ho, hx, d0, gc_1, gc_2, hA, hB, hC, hw', hi', hD, hE, ff_35]))
          exact WK.retNil (Or.inr ⟨rfl, bad _ rfl⟩)
        · repeat (first | refine qqm rfl ?_ | ((first | refine qqr ?_ | refine qqt ?_); simp only [SS, qx4, vun, simprocAttr, hb, ho, hx, d0, gc_1, gc_2, hA, hB, hC, hw', hi', hD, hE, ff_35]))
          refine AtCall.by (told_gives _ hww _ _) ?_
          rintro v n' H' hk' ⟨⟨t, rfl, htold⟩, rfl, rfl⟩
          cases t
          · simp only [SS, qx4, vun, simprocAttr, ff_35]
            repeat (first | refine qqm rfl ?_ | ((first | refine qqr ?_ | refine qqt ?_); simp only [SS, qx4, vun, simprocAttr, ff_35]))
            exact WK.retNil (Or.inr ⟨rfl, bad _ rfl⟩)
          · simp only [SS, qx4, vun, simprocAttr, ff_35]
            repeat (first | refine qqm rfl ?_ | ((first | refine qqr ?_ | refine qqt ?_); simp only [SS, qx4, vun, simprocAttr, ff_35]))
            exact WK.skipNil (Or.inl ⟨rfl, rfl, rfl, rfl, rfl, rfl, by omega, by omega, by omega, fun q hq r' hr' => by
              subst hq
              have hD' : ¬ g.rules[q + 1].left < (g.rules[q]'(by omega)).left := hD
              rw [List.getElem?_eq_getElem (by omega)] at hr'
              cases hr'
              omega, htold rfl⟩)
    · by_cases hE : (24 : Int) < g.rules[i].right.length
      · repeat (first | refine qqm rfl ?_ | ((first | refine qqr ?_ | refine qqt ?_); simp only [SS, qx4, vun, simprocAttr, hb, ho, gc_1, gc_2, hA, hB, hC, hE, ff_35]))
        exact WK.retNil (Or.inr ⟨rfl, bad _ rfl⟩)
      · repeat (first | refine qqm rfl ?_ | ((first | refine qqr ?_ | refine qqt ?_); simp only [SS, qx4, vun, simprocAttr, hb, ho, gc_1, gc_2, hA, hB, hC, hE, ff_35]))
        refine AtCall.by (told_gives _ hww _ _) ?_
        rintro v n' H' hk' ⟨⟨t, rfl, htold⟩, rfl, rfl⟩
        cases t
        · simp only [SS, qx4, vun, simprocAttr, ff_35]
          repeat (first | refine qqm rfl ?_ | ((first | refine qqr ?_ | refine qqt ?_); simp only [SS, qx4, vun, simprocAttr, ff_35]))
          exact WK.retNil (Or.inr ⟨rfl, bad _ rfl⟩)
        · simp only [SS, qx4, vun, simprocAttr, ff_35]
          repeat (first | refine qqm rfl ?_ | ((first | refine qqr ?_ | refine qqt ?_); simp only [SS, qx4, vun, simprocAttr, ff_35]))
          exact WK.skipNil (Or.inl ⟨rfl, rfl, rfl, rfl, rfl, rfl, by omega, by omega, by omega, fun q hq => by omega, htold rfl⟩)
  rintro ⟨f, n', H'⟩ ⟨rfl, rfl, f1, f2, f5, q1, q2, q3, q4, q5⟩
  simp only at f1 f2 f5
  have bad : ∀ f : Fr, f 4 = .bool false → Fin Tryz.prog Tryz.f35.results.toList n H (fun v _ _ => ∃ t, v = .bool t ∧ (t = true → RuleOK g i g.rules[i] ∧ RuleUn g i g.rules[i])) .ret ⟨f, n + 1 + 1, H'⟩ :=
    fun f hf => ⟨Or.inr rfl, [f 4], rfl, hk, false, hf, fun h => by cases h⟩
  repeat (first | refine qqm rfl ?_ | ((first | refine qqr ?_ | refine qqt ?_); simp only [SS, qx4, vun, simprocAttr, f1, f2, f5, ff_35]))
  refine WK.loop (fun k s => ∃ j, s.n = n + 1 + 1 ∧ s.H = H' ∧ s.f 1 = .int .i64 i ∧ s.f 2 = .pointer (some ⟨n, 0, none⟩) ∧ s.f 5 = .pointer (some ⟨n + 1, 0, none⟩) ∧ s.f 6 = .int .i64 (j : Nat) ∧ j ≤ g.rules[i].right.length ∧ k = g.rules[i].right.length - j ∧
    ∀ s ∈ g.rules[i].right.take j, s < g.vars.length ∧ (s < 0 → -s - 1 < g.terms.length)) g.rules[i].right.length ?_ ?_
  · exact ⟨0, rfl, rfl, f1, f2, f5, rfl, Nat.zero_le _, rfl, by simp⟩
  rintro kk ⟨f', n', H'⟩ ⟨j, rfl, rfl, f1, f2, f5, f6, hj, rfl, hsym⟩ ih
  simp only at f1 f2 f5 f6 ih hb ho hr hp hx hk bad
  by_cases hjr : j < g.rules[i].right.length
  · obtain ⟨z, kz, ds, tz, oz, rfl, hz, e⟩ := hp.at hjr
    have hsr := hri _ (List.getElem_mem hjr)
    unfold inI at hsr
    have htj : g.rules[i].right.take (j + 1) = g.rules[i].right.take j ++ [g.rules[i].right[j]] := List.take_succ_eq_append_getElem hjr
    have hn := bnot_i64 hsr.1 hsr.2
    by_cases hA : (g.vars.length : Int) ≤ g.rules[i].right[j]
    · repeat (first | refine qqm rfl ?_ | ((first | refine qqr ?_ | refine qqt ?_); simp only [SS, qx4, vun, simprocAttr, f1, f2, f5, f6, hb, ho, gc_0, gc_1, gc_2, hjr, hz, e, hA, ff_35]))
      exact WK.retNil (bad _ rfl)
    by_cases hB : g.rules[i].right[j] < 0
    · by_cases hC : (g.terms.length : Int) ≤ -g.rules[i].right[j] - 1
      · repeat (first | refine qqm rfl ?_ | ((first | refine qqr ?_ | refine qqt ?_); simp only [SS, qx4, vun, simprocAttr, f1, f2, f5, f6, hb, ho, gc_0, gc_1, gc_2, hjr, hz, e, hA, hB, hn, hC, ff_35]))
        exact WK.retNil (bad _ rfl)
      · repeat (first | refine qqm rfl ?_ | ((first | refine qqr ?_ | refine qqt ?_); simp only [SS, qx4, vun, simprocAttr, f1, f2, f5, f6, hb, ho, gc_0, gc_1, gc_2, hjr, hz, e, hA, hB, hn, hC, ff_35]))
        refine ih (g.rules[i].right.length - (j + 1)) (by omega) _ ⟨j + 1, rfl, rfl, f1, f2, f5, ?_, hjr, rfl, ?_⟩
        · simp only [packed, qv, Nat.reduceEqDiff, ↓reduceIte, f6, ff_35]
          rw [wrap_in (by omega) (by omega)]; rfl
        · intro s hs
          rw [htj, List.mem_append] at hs
          rcases hs with hs | hs
          · exact hsym s hs
          · simp at hs; subst hs; exact ⟨by omega, fun _ => by omega⟩
    · repeat (first | refine qqm rfl ?_ | ((first | refine qqr ?_ | refine qqt ?_); simp only [SS, qx4, vun, simprocAttr, f1, f2, f5, f6, hb, ho, gc_0, gc_1, gc_2, hjr, hz, e, hA, hB, ff_35]))
      refine ih (g.rules[i].right.length - (j + 1)) (by omega) _ ⟨j + 1, rfl, rfl, f1, f2, f5, ?_, hjr, rfl, ?_⟩
      · simp only [packed, qv, Nat.reduceEqDiff, ↓reduceIte, f6, ff_35]
        rw [wrap_in (by omega) (by omega)]; rfl
      · intro s hs
        rw [htj, List.mem_append] at hs
        rcases hs with hs | hs
        · exact hsym s hs
        · simp at hs; subst hs; exact ⟨by omega, fun _ => by omega⟩
  · repeat (first | refine qqm rfl ?_ | ((first | refine qqr ?_ | refine qqt ?_); simp only [SS, qx4, vun, simprocAttr, f1, f2, f5, f6, hb, ho, gc_0, gc_1, gc_2, hjr, ff_35]))
    rw [List.take_of_length_le (by omega)] at hsym
    refine WK.loop (fun k s => ∃ j, s.n = n + 1 + 1 ∧ s.H = H' ∧ s.f 1 = .int .i64 i ∧ s.f 2 = .pointer (some ⟨n, 0, none⟩) ∧ s.f 5 = .pointer (some ⟨n + 1, 0, none⟩) ∧ s.f 8 = .int .i64 (j : Nat) ∧ j ≤ i ∧ k = i - j ∧ ∀ (q : Nat) (hq : q < g.rules.length), q < j → g.rules[q].left = g.rules[i].left → same g.rules[q].right g.rules[i].right = false) i ?_ ?_
    · exact ⟨0, rfl, rfl, f1, f2, f5, rfl, Nat.zero_le _, rfl, fun q _ h => absurd h (Nat.not_lt_zero _)⟩
    rintro kk ⟨f', n', H'⟩ ⟨j, rfl, rfl, f1, f2, f5, f8, hj, rfl, hun⟩ ih
    simp only at f1 f2 f5 f8 ih hb ho hr hp hx hk bad
    by_cases hjr : j < i
    · obtain ⟨x', k', cs', ty', own', p', e', hx', d0, d1, d2, hp'⟩ := hr.at (i := j) (by omega)
      cases e'
      rw [hx] at hx'
      cases hx'
      have hjl : j < g.rules.length := by omega
      obtain ⟨hrl', _⟩ := wg.right _ (List.getElem_mem hjl)
      by_cases hA : g.rules[j].left = g.rules[i].left
      · repeat (first | refine qqm rfl ?_ | ((first | refine qqr ?_ | refine qqt ?_); simp only [SS, qx4, vun, simprocAttr, f1, f2, f5, f8, hb, ho, hx, gc_2, hjr, hjl, d0, d1, hA, ff_35]))
        refine AtCall.by (same_gives hp' hp hrl' (by unfold maxL; omega)) ?_
        rintro v n' H' hk' ⟨rfl, rfl, rfl⟩
        cases hS : same g.rules[j].right g.rules[i].right
        · simp only [SS, qx4, vun, simprocAttr, ff_35]
          have hun' : ∀ (q : Nat) (hq : q < g.rules.length), q < j + 1 → g.rules[q].left = g.rules[i].left → same g.rules[q].right g.rules[i].right = false := fun q hq h e => by
            by_cases hqj : q = j
            · subst hqj; exact hS
            · exact hun q hq (by omega) e
          repeat (first | refine qqm rfl ?_ | ((first | refine qqr ?_ | refine qqt ?_); simp only [SS, qx4, vun, simprocAttr, f1, f2, f5, f8, ff_35]))
          refine ih (i - (j + 1)) (by omega) _ ⟨j + 1, rfl, rfl, f1, f2, f5, ?_, hjr, rfl, hun'⟩
          simp only [packed, qv, Nat.reduceEqDiff, ↓reduceIte, f8, ff_35]
          rw [wrap_in (by omega) (by omega)]; rfl
        · simp only [SS, qx4, vun, simprocAttr, ff_35]
          repeat (first | refine qqm rfl ?_ | ((first | refine qqr ?_ | refine qqt ?_); simp only [SS, qx4, vun, simprocAttr, ff_35]))
          exact WK.retNil (bad _ rfl)
      · repeat (first | refine qqm rfl ?_ | ((first | refine qqr ?_ | refine qqt ?_); simp only [SS, qx4, vun, simprocAttr, f1, f2, f5, f8, hb, ho, hx, gc_2, hjr, hjl, d0, d1, hA, ff_35]))
        have hun' : ∀ (q : Nat) (hq : q < g.rules.length), q < j + 1 → g.rules[q].left = g.rules[i].left → same g.rules[q].right g.rules[i].right = false := fun q hq h e => by
          by_cases hqj : q = j
          · subst hqj; exact absurd e hA
          · exact hun q hq (by omega) e
        refine ih (i - (j + 1)) (by omega) _ ⟨j + 1, rfl, rfl, f1, f2, f5, ?_, hjr, rfl, hun'⟩
        simp only [packed, qv, Nat.reduceEqDiff, ↓reduceIte, f8, ff_35]
        rw [wrap_in (by omega) (by omega)]; rfl
    · repeat (first | refine qqm rfl ?_ | ((first | refine qqr ?_ | refine qqt ?_); simp only [SS, qx4, vun, simprocAttr, f1, f2, f5, f8, hjr, ff_35]))
      first | refine qqf ?_ ?_ | refine qqg ?_ ?_
      · exact hk
      · exact ⟨true, rfl, fun _ => ⟨⟨q1, q2, q3, hsym, q4, q5⟩, fun q hq h => hun q hq (by omega)⟩⟩
end Go.Proofs.YtihjaobjhmmboaaGreatDoor

namespace Go.Proofs.YtihjaobjhmmboaaGreatDoor
open Go.AM
set_option maxRecDepth 100000
def letter (x : Int) : Bool := decide (97 ≤ x) && decide (x ≤ 122) || decide (65 ≤ x) && decide (x ≤ 90)
def digit (x : Int) : Bool := decide (48 ≤ x) && decide (x ≤ 57)
def inner (x : Int) : Bool := letter x || digit x || decide (x = 95)
def quotable (x : Int) : Bool := decide (32 ≤ x) && decide (x ≤ 126) && !decide (x = 39)
theorem letter_gives (x : Int) (n : Nat) (H : Heap) : Gives Tryz.prog 62 [.int .u8 x] n H fun v n' H' => v = .bool (letter x) ∧ n' = n ∧ H' = H := by
 refine Gives.of orders ok62 (Nat.le_of_ble_eq_true rfl) ?_
 by_cases h1 : 97 ≤ x
 ·by_cases h2 : x ≤ 122
  ·repeat (first | refine qqm rfl ?_ | ((first | refine qqr ?_ | refine qqt ?_); simp only [SS, qx3, simprocAttr, h1, h2]))
   first | refine qqf ?_ ?_ | refine qqg ?_ ?_
   ·exact fun _ _ => rfl
   ·simp only [packed, qv, Nat.reduceEqDiff, ↓reduceIte, letter, h1, h2]
    simp
  ·by_cases h3 : 65 ≤ x
   ·by_cases h4 : x ≤ 90
    ·omega
    ·repeat (first | refine qqm rfl ?_ | ((first | refine qqr ?_ | refine qqt ?_); simp only [SS, qx3, simprocAttr, h1, h2, h3, h4]))
     first | refine qqf ?_ ?_ | refine qqg ?_ ?_
     ·exact fun _ _ => rfl
     ·simp only [packed, qv, Nat.reduceEqDiff, ↓reduceIte, letter, h1, h2, h3, h4]
      simp
   ·omega
 ·by_cases h3 : 65 ≤ x
  ·by_cases h4 : x ≤ 90
   ·repeat (first | refine qqm rfl ?_ | ((first | refine qqr ?_ | refine qqt ?_); simp only [SS, qx3, simprocAttr, h1, h3, h4]))
    first | refine qqf ?_ ?_ | refine qqg ?_ ?_
    ·exact fun _ _ => rfl
    ·simp only [packed, qv, Nat.reduceEqDiff, ↓reduceIte, letter, h1, h3, h4]
     simp
   ·repeat (first | refine qqm rfl ?_ | ((first | refine qqr ?_ | refine qqt ?_); simp only [SS, qx3, simprocAttr, h1, h3, h4]))
    first | refine qqf ?_ ?_ | refine qqg ?_ ?_
    ·exact fun _ _ => rfl
    ·simp only [packed, qv, Nat.reduceEqDiff, ↓reduceIte, letter, h1, h3, h4]
     simp
  ·repeat (first | refine qqm rfl ?_ | ((first | refine qqr ?_ | refine qqt ?_); simp only [SS, qx3, simprocAttr, h1, h3]))
   first | refine qqf ?_ ?_ | refine qqg ?_ ?_
   ·exact fun _ _ => rfl
   ·simp only [packed, qv, Nat.reduceEqDiff, ↓reduceIte, letter, h1, h3]
    simp
theorem digit_gives (x : Int) (n : Nat) (H : Heap) : Gives Tryz.prog 80 [.int .u8 x] n H fun v n' H' => v = .bool (digit x) ∧ n' = n ∧ H' = H := by
 refine Gives.of orders ok80 (Nat.le_of_ble_eq_true rfl) ?_
 by_cases h1 : 48 ≤ x
 ·by_cases h2 : x ≤ 57
  ·repeat (first | refine qqm rfl ?_ | ((first | refine qqr ?_ | refine qqt ?_); simp only [SS, qx3, simprocAttr, h1, h2]))
   first | refine qqf ?_ ?_ | refine qqg ?_ ?_
   ·exact fun _ _ => rfl
   ·simp only [packed, qv, Nat.reduceEqDiff, ↓reduceIte, digit, h1, h2]
    simp
  ·repeat (first | refine qqm rfl ?_ | ((first | refine qqr ?_ | refine qqt ?_); simp only [SS, qx3, simprocAttr, h1, h2]))
   first | refine qqf ?_ ?_ | refine qqg ?_ ?_
   ·exact fun _ _ => rfl
   ·simp only [packed, qv, Nat.reduceEqDiff, ↓reduceIte, digit, h1, h2]
    simp
 ·repeat (first | refine qqm rfl ?_ | ((first | refine qqr ?_ | refine qqt ?_); simp only [SS, qx3, simprocAttr, h1]))
  first | refine qqf ?_ ?_ | refine qqg ?_ ?_
  ·exact fun _ _ => rfl
  ·simp only [packed, qv, Nat.reduceEqDiff, ↓reduceIte, digit, h1]
   simp
theorem quotable_gives (x : Int) (n : Nat) (H : Heap) : Gives Tryz.prog 64 [.int .u8 x] n H fun v n' H' => v = .bool (quotable x) ∧ n' = n ∧ H' = H := by
 refine Gives.of orders ok64 (Nat.le_of_ble_eq_true rfl) ?_
 by_cases h1 : 32 ≤ x
 ·by_cases h2 : x ≤ 126
  ·repeat (first | refine qqm rfl ?_ | ((first | refine qqr ?_ | refine qqt ?_); simp only [SS, qx3, simprocAttr, h1, h2, ff_64]))
   first | refine qqf ?_ ?_ | refine qqg ?_ ?_
   ·exact fun _ _ => rfl
   ·simp only [packed, qv, Nat.reduceEqDiff, ↓reduceIte, quotable, h1, h2, ff_64]
    simp
  ·repeat (first | refine qqm rfl ?_ | ((first | refine qqr ?_ | refine qqt ?_); simp only [SS, qx3, simprocAttr, h1, h2, ff_64]))
   first | refine qqf ?_ ?_ | refine qqg ?_ ?_
   ·exact fun _ _ => rfl
   ·simp only [packed, qv, Nat.reduceEqDiff, ↓reduceIte, quotable, h1, h2, ff_64]
    simp
 ·repeat (first | refine qqm rfl ?_ | ((first | refine qqr ?_ | refine qqt ?_); simp only [SS, qx3, simprocAttr, h1, ff_64]))
  first | refine qqf ?_ ?_ | refine qqg ?_ ?_
  ·exact fun _ _ => rfl
  ·simp only [packed, qv, Nat.reduceEqDiff, ↓reduceIte, quotable, h1, ff_64]
   simp
theorem inner_gives (x : Int) (n : Nat) (H : Heap) : Gives Tryz.prog 63 [.int .u8 x] n H fun v n' H' => v = .bool (inner x) ∧ n' = n ∧ H' = H := by
 refine Gives.of orders ok63 (Nat.le_of_ble_eq_true rfl) ?_
 repeat (first | refine qqm rfl ?_ | ((first | refine qqr ?_ | refine qqt ?_); simp only [SS, qx3, simprocAttr, ff_63]))
 refine AtCall.by (letter_gives x n H) ?_
 rintro v n' H' hk ⟨rfl, rfl, rfl⟩
 by_cases h1 : letter x = true
 ·simp only [SS, qx3, simprocAttr, h1, ff_63]
  repeat (first | refine qqm rfl ?_ | ((first | refine qqr ?_ | refine qqt ?_); simp only [SS, qx3, simprocAttr, h1, ff_63]))
  first | refine qqf ?_ ?_ | refine qqg ?_ ?_
  ·exact fun _ _ => rfl
  ·simp only [packed, qv, Nat.reduceEqDiff, ↓reduceIte, inner, h1, ff_63]
   simp
 ·have h1 : letter x = false := by simpa using h1
  simp only [SS, qx3, simprocAttr, h1, ff_63]
  refine AtCall.by (digit_gives x _ _) ?_
  rintro v n' H' hk ⟨rfl, rfl, rfl⟩
  by_cases h2 : digit x = true
  ·simp only [SS, qx3, simprocAttr, h1, h2, ff_63]
   repeat (first | refine qqm rfl ?_ | ((first | refine qqr ?_ | refine qqt ?_); simp only [SS, qx3, simprocAttr, h1, h2, ff_63]))
   first | refine qqf ?_ ?_ | refine qqg ?_ ?_
   ·exact fun _ _ => rfl
   ·simp only [packed, qv, Nat.reduceEqDiff, ↓reduceIte, inner, h1, h2, ff_63]
    simp
  ·have h2 : digit x = false := by simpa using h2
   simp only [SS, qx3, simprocAttr, h1, h2, ff_63]
   repeat (first | refine qqm rfl ?_ | ((first | refine qqr ?_ | refine qqt ?_); simp only [SS, qx3, simprocAttr, h1, h2, ff_63]))
   first | refine qqf ?_ ?_ | refine qqg ?_ ?_
   ·exact fun _ _ => rfl
   ·simp only [packed, qv, Nat.reduceEqDiff, ↓reduceIte, inner, h1, h2, ff_63]
    simp
end Go.Proofs.YtihjaobjhmmboaaGreatDoor

namespace Go.Proofs.YtihjaobjhmmboaaGreatDoor
open Go.AM
set_option maxRecDepth 100000
theorem bget {s : ByteArray} {i : Nat} (h : i < s.size) : s[i]? = some s[i] := getElem?_pos s i h
def NB (s : ByteArray) : Prop := s.size ≤ 24 ∧ (∃ h : 0 < s.size, letter s[0].toNat = true) ∧ ∀ (i : Nat) (h : i < s.size), inner s[i].toNat = true
def QB (s : ByteArray) : Prop := 1 ≤ s.size ∧ s.size ≤ 16 ∧ ∀ (i : Nat) (h : i < s.size), quotable s[i].toNat = true
theorem isName_gives (s : ByteArray) (n : Nat) (H : Heap) : Gives Tryz.prog 32 [.string s] n H fun v n' H' => (∃ b, v = .bool b ∧ (b = true → NB s)) ∧ n' = n ∧ H' = H := by
 refine Gives.of orders ok32 (Nat.le_of_ble_eq_true rfl) ?_
 by_cases h1 : (s.size : Int) < 1
 ·repeat (first | refine qqm rfl ?_ | ((first | refine qqr ?_ | refine qqt ?_); simp only [SS, qx2, vun, simprocAttr, h1, ff_32]))
  first | refine qqf ?_ ?_ | refine qqg ?_ ?_
  ·exact fun _ _ => rfl
  ·simp only [packed, qv, Nat.reduceEqDiff, ↓reduceIte, ff_32]
   simp
 by_cases h2 : (24 : Int) < s.size
 ·repeat (first | refine qqm rfl ?_ | ((first | refine qqr ?_ | refine qqt ?_); simp only [SS, qx2, vun, simprocAttr, h1, h2, ff_32]))
  first | refine qqf ?_ ?_ | refine qqg ?_ ?_
  ·exact fun _ _ => rfl
  ·simp only [packed, qv, Nat.reduceEqDiff, ↓reduceIte, ff_32]
   simp
 have e0 : s[0]? = some s[0] := bget (by omega)
 repeat (first | refine qqm rfl ?_ | ((first | refine qqr ?_ | refine qqt ?_); simp only [SS, qx2, vun, simprocAttr, h1, h2, e0, ff_32]))
 refine AtCall.by (letter_gives _ n H) ?_
 rintro v n' H' hk ⟨rfl, rfl, rfl⟩
 cases h3 : letter s[0].toNat
 ·simp only [SS, qx2, vun, simprocAttr, h1, h2, ff_32]
  repeat (first | refine qqm rfl ?_ | ((first | refine qqr ?_ | refine qqt ?_); simp only [SS, qx2, vun, simprocAttr, h1, h2, ff_32]))
  first | refine qqf ?_ ?_ | refine qqg ?_ ?_
  ·exact fun _ _ => rfl
  ·simp only [packed, qv, Nat.reduceEqDiff, ↓reduceIte, ff_32]
   simp
 simp only [SS, qx2, vun, simprocAttr, h1, h2, ff_32]
 repeat (first | refine qqm rfl ?_ | ((first | refine qqr ?_ | refine qqt ?_); simp only [SS, qx2, vun, simprocAttr, h1, h2, ff_32]))
 refine WK.loop (fun k s' => ∃ i, s'.n = n' ∧ s'.H = H' ∧ s'.f 0 = .string s ∧ s'.f 3 = .int .i64 (i : Nat) ∧ i ≤ s.size ∧ (∀ (j : Nat) (h : j < s.size), j < i → inner s[j].toNat = true) ∧ k = s.size - i) s.size ?_ ?_
 ·exact ⟨0, rfl, rfl, rfl, rfl, Nat.zero_le _, fun _ _ h => absurd h (Nat.not_lt_zero _), rfl⟩
 rintro k ⟨f, n', H'⟩ ⟨i, rfl, rfl, f0, f3, hi, hin, rfl⟩ ih
 simp only at f0 f3 ih
 by_cases hi : i < s.size
 ·have ei : s[i]? = some s[i] := bget hi
  repeat (first | refine qqm rfl ?_ | ((first | refine qqr ?_ | refine qqt ?_); simp only [SS, qx2, vun, simprocAttr, f0, f3, hi, ei, ff_32]))
  refine AtCall.by (inner_gives _ _ _) ?_
  rintro v n' H' hk ⟨rfl, rfl, rfl⟩
  cases h4 : inner s[i].toNat
  ·simp only [SS, qx2, vun, simprocAttr, f0, f3, ff_32]
   repeat (first | refine qqm rfl ?_ | ((first | refine qqr ?_ | refine qqt ?_); simp only [SS, qx2, vun, simprocAttr, f0, f3, ff_32]))
   first | refine qqf ?_ ?_ | refine qqg ?_ ?_
   ·exact fun _ _ => rfl
   ·simp only [packed, qv, Nat.reduceEqDiff, ↓reduceIte, ff_32]
    simp
  ·simp only [SS, qx2, vun, simprocAttr, f0, f3, ff_32]
   repeat (first | refine qqm rfl ?_ | ((first | refine qqr ?_ | refine qqt ?_); simp only [SS, qx2, vun, simprocAttr, f0, f3, ff_32]))
   refine ih (s.size - (i + 1)) (by omega) _ ⟨i + 1, rfl, rfl, f0, ?_, hi, fun j h hj => ?_, rfl⟩
   ·simp only [packed, qv, Nat.reduceEqDiff, ↓reduceIte, ff_32]
    rw [wrap_in (by omega) (by omega)]; rfl
   ·by_cases e : j = i
    ·subst e; exact h4
    ·exact hin j h (by omega)
 ·have hall : NB s := ⟨by omega, ⟨by omega, h3⟩, fun j h => hin j h (by omega)⟩
  repeat (first | refine qqm rfl ?_ | ((first | refine qqr ?_ | refine qqt ?_); simp only [SS, qx2, vun, simprocAttr, f0, f3, hi, ff_32]))
  first | refine qqf ?_ ?_ | refine qqg ?_ ?_
  ·exact fun _ _ => rfl
  ·simp only [packed, qv, Nat.reduceEqDiff, ↓reduceIte, ff_32]
   refine ⟨⟨true, rfl, fun _ => hall⟩, ?_⟩; simp
theorem isQuote_gives (s : ByteArray) (hs : s.size ≤ maxL) (n : Nat) (H : Heap) : Gives Tryz.prog 34 [.string s] n H fun v n' H' => (∃ b, v = .bool b ∧ (b = true → QB s)) ∧ n' = n ∧ H' = H := by
 refine Gives.of orders ok34 (Nat.le_of_ble_eq_true rfl) ?_
 repeat (first | refine qqm rfl ?_ | ((first | refine qqr ?_ | refine qqt ?_); simp only [SS, qx2, vun, simprocAttr, ff_34]))
 refine WK.loop (fun k s' => ∃ i, s'.n = n ∧ s'.H = H ∧ s'.f 0 = .string s ∧ s'.f 3 = .int .i64 (i : Nat) ∧ i ≤ s.size ∧ (∀ (j : Nat) (h : j < s.size), j < i → quotable s[j].toNat = true) ∧ k = s.size - i) s.size ?_ ?_
 ·exact ⟨0, rfl, rfl, rfl, rfl, Nat.zero_le _, fun _ _ h => absurd h (Nat.not_lt_zero _), rfl⟩
 rintro k ⟨f, n', H'⟩ ⟨i, rfl, rfl, f0, f3, hi, hin, rfl⟩ ih
 simp only at f0 f3 ih
 by_cases hi : i < s.size
 ·have ei : s[i]? = some s[i] := bget hi
  repeat (first | refine qqm rfl ?_ | ((first | refine qqr ?_ | refine qqt ?_); simp only [SS, qx2, vun, simprocAttr, f0, f3, hi, ei, ff_34]))
  refine AtCall.by (quotable_gives _ _ _) ?_
  rintro v n' H' hk ⟨rfl, rfl, rfl⟩
  cases h4 : quotable s[i].toNat
  ·simp only [SS, qx2, vun, simprocAttr, f0, f3, ff_34]
   repeat (first | refine qqm rfl ?_ | ((first | refine qqr ?_ | refine qqt ?_); simp only [SS, qx2, vun, simprocAttr, f0, f3, ff_34]))
   first | refine qqf ?_ ?_ | refine qqg ?_ ?_
   ·exact fun _ _ => rfl
   ·simp only [packed, qv, Nat.reduceEqDiff, ↓reduceIte, ff_34]
    simp
  ·simp only [SS, qx2, vun, simprocAttr, f0, f3, ff_34]
   repeat (first | refine qqm rfl ?_ | ((first | refine qqr ?_ | refine qqt ?_); simp only [SS, qx2, vun, simprocAttr, f0, f3, ff_34]))
   refine ih (s.size - (i + 1)) (by omega) _ ⟨i + 1, rfl, rfl, f0, ?_, hi, fun j h hj => ?_, rfl⟩
   ·simp only [packed, qv, Nat.reduceEqDiff, ↓reduceIte, ff_34]
    unfold maxL at hs
    rw [wrap_in (by omega) (by omega)]; rfl
   ·by_cases e : j = i
    ·subst e; exact h4
    ·exact hin j h (by omega)
 ·by_cases h1 : (1 : Int) ≤ s.size
  ·by_cases h2 : (s.size : Int) ≤ 16
   ·have hall : QB s := ⟨by omega, by omega, fun j h => hin j h (by omega)⟩
    repeat (first | refine qqm rfl ?_ | ((first | refine qqr ?_ | refine qqt ?_); simp only [SS, qx2, vun, simprocAttr, f0, f3, hi, h1, h2, ff_34]))
    first | refine qqf ?_ ?_ | refine qqg ?_ ?_
    ·exact fun _ _ => rfl
    ·simp only [packed, qv, Nat.reduceEqDiff, ↓reduceIte, ff_34]
     refine ⟨⟨_, rfl, fun _ => hall⟩, ?_⟩; simp
   ·repeat (first | refine qqm rfl ?_ | ((first | refine qqr ?_ | refine qqt ?_); simp only [SS, qx2, vun, simprocAttr, f0, f3, hi, h1, h2, ff_34]))
    first | refine qqf ?_ ?_ | refine qqg ?_ ?_
    ·exact fun _ _ => rfl
    ·simp only [packed, qv, Nat.reduceEqDiff, ↓reduceIte, ff_34]
     simp
  ·repeat (first | refine qqm rfl ?_ | ((first | refine qqr ?_ | refine qqt ?_); simp only [SS, qx2, vun, simprocAttr, f0, f3, hi, h1, ff_34]))
   first | refine qqf ?_ ?_ | refine qqg ?_ ?_
   ·exact fun _ _ => rfl
   ·simp only [packed, qv, Nat.reduceEqDiff, ↓reduceIte, ff_34]
    simp
def place (l : List ByteArray) (s : ByteArray) : Nat → Int
 | i => match l with
  | [] => -1
  | a :: l => if a.toList = s.toList then i else place l s (i + 1)
theorem place_gives {p : Option Addr} {l : List ByteArray} {s : ByteArray} {n : Nat} {H : Heap} (h : RA Value.string H p l) (hl : l.length ≤ maxL) :
  Gives Tryz.prog 33 [.slice p l.length l.length, .string s] n H fun v n' H' => v = .int .i64 (place l s 0) ∧ n' = n ∧ H' = H := by
 refine Gives.of orders ok33 (Nat.le_of_ble_eq_true rfl) ?_
 repeat (first | refine qqm rfl ?_ | ((first | refine qqr ?_ | refine qqt ?_); simp only [SS, qx9, simprocAttr, ff_33]))
 refine WK.loop (fun k s' => ∃ i, s'.n = n ∧ s'.H = H ∧ s'.f 0 = .slice p l.length l.length ∧ s'.f 1 = .string s ∧ s'.f 5 = .int .i64 (i : Nat) ∧ i ≤ l.length ∧ k = l.length - i ∧ place (l.drop i) s i = place l s 0) l.length ?_ ?_
 ·exact ⟨0, rfl, rfl, rfl, rfl, rfl, Nat.zero_le _, rfl, rfl⟩
 rintro k ⟨f, n', H'⟩ ⟨i, rfl, rfl, f0, f1, f5, hi, rfl, hpl⟩ ih
 simp only at f0 f1 f5 ih h
 by_cases hi : i < l.length
 ·obtain ⟨x, k, cs, ty, own, rfl, hx, e⟩ := h.at hi
  have d : l.drop i = l[i] :: l.drop (i + 1) := List.drop_eq_getElem_cons hi
  by_cases he : (l[i].toList == s.toList) = true
  ·repeat (first | refine qqm rfl ?_ | ((first | refine qqr ?_ | refine qqt ?_); simp only [SS, qx9, simprocAttr, f0, f1, f5, hi, hx, e, he, ff_33]))
   first | refine qqf ?_ ?_ | refine qqg ?_ ?_
   ·exact fun _ _ => rfl
   ·simp only [packed, qv, Nat.reduceEqDiff, ↓reduceIte, f5, ff_33]
    rw [← hpl, d, place, if_pos (by simpa using he)]; trivial
  ·have he : (l[i].toList == s.toList) = false := by simpa using he
   repeat (first | refine qqm rfl ?_ | ((first | refine qqr ?_ | refine qqt ?_); simp only [SS, qx9, simprocAttr, f0, f1, f5, hi, hx, e, he, ff_33]))
   refine ih (l.length - (i + 1)) (by omega) _ ⟨i + 1, rfl, rfl, f0, f1, ?_, hi, rfl, ?_⟩
   ·simp only [packed, qv, Nat.reduceEqDiff, ↓reduceIte, ff_33]
    unfold maxL at hl
    rw [wrap_in (by omega) (by omega)]; rfl
   ·rw [← hpl, d]
    conv => rhs; rw [place]
    rw [if_neg (by simpa using he)]
 ·repeat (first | refine qqm rfl ?_ | ((first | refine qqr ?_ | refine qqt ?_); simp only [SS, qx9, simprocAttr, f0, f1, f5, hi, ff_33]))
  first | refine qqf ?_ ?_ | refine qqg ?_ ?_
  ·exact fun _ _ => rfl
  ·simp only [packed, qv, Nat.reduceEqDiff, ↓reduceIte, ff_33]
   rw [← hpl, List.drop_eq_nil_of_le (by omega)]
   simp [place]
end Go.Proofs.YtihjaobjhmmboaaGreatDoor
