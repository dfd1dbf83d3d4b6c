/- A part of a proof. Its conditions: none. -/
import Derived.Test.YtpdlmpbhohinpaaAmCFacts
import Derived.Test.YtpdlmpbhohinpaaAmC
import Derived.Test.YtpdlmpbhohinpaaAmD
set_option linter.all false
namespace Go.Proofs.Ytpdlmpbhohinpaa
open Go.AM
set_option maxRecDepth 100000
def less : List Int → List Int → Bool
  | a :: x, b :: y => if a = b then less x y else decide (a < b)
  | x, y => decide (x.length < y.length)
theorem less_gives {pa pb : Option Addr} {a b : List Int} {n : Nat} {H : Heap} (ha : RA (Value.int .i64) H pa a) (hb : RA (Value.int .i64) H pb b) (hal : a.length ≤ maxL) :
    Gives Try.prog 46 [.slice pa a.length a.length, .slice pb b.length b.length] n H fun v n' H' => v = .bool (less a b) ∧ n' = n ∧ H' = H := by
  refine Gives.of orders ok46 (Nat.le_of_ble_eq_true rfl) ?_
  repeat (first | apply qqa | apply qqb | apply qqc | apply qqd | apply qqe | apply qqf | apply qqg | apply qqh | refine qqi rfl ?_ | ((first | (refine WK.rgn ?_ ?_; kernel_rfl) | refine AtCall.now ?_); simp (config := { maxSteps := 1000000 }) only [SS, qg0, qgb, qgl, qgi, forall_const, tor, tlen2, tpick, Int.reduceEq, Int.reduceNeg, Nat.reduceGT, Nat.reduceLT, Nat.reduceLeDiff, Nat.reduceEqDiff, ↓reduceIte, reduceCtorEq, Int.reduceToNat, Int.reduceLE, Int.reduceLT, Nat.reduceAdd, Nat.reduceMul, ff_46]) | refine qqj rfl ?_ | refine qqk rfl ?_)
  refine WK.loop (fun k s => ∃ i, s.n = n ∧ s.H = H ∧ s.f 0 = .slice pa a.length a.length ∧ s.f 1 = .slice pb b.length b.length ∧ s.f 5 = .int .i64 (i : Nat) ∧ i ≤ a.length ∧ i ≤ b.length ∧ k = a.length - i ∧ less (a.drop i) (b.drop i) = less a b) a.length ?_ ?_
  · exact ⟨0, rfl, rfl, rfl, rfl, rfl, Nat.zero_le _, Nat.zero_le _, rfl, rfl⟩
  rintro k ⟨f, n', H'⟩ ⟨i, rfl, rfl, h0, h1, h5, hi1, hi2, rfl, hl⟩ ih
  simp only at h0 h1 h5 ih ha hb
  by_cases hia : i < a.length
  · by_cases hib : i < b.length
    · obtain ⟨x, k, cs, ty, own, rfl, hx, ha'⟩ := ha (by intro e; simp [e] at hia)
      obtain ⟨y, l, ds, tz, pwn, rfl, hy, hb'⟩ := hb (by intro e; simp [e] at hib)
      have e1 := ha' i _ (List.getElem?_eq_getElem hia)
      have e2 := hb' i _ (List.getElem?_eq_getElem hib)
      have d1 : a.drop i = a[i] :: a.drop (i + 1) := List.drop_eq_getElem_cons hia
      have d2 : b.drop i = b[i] :: b.drop (i + 1) := List.drop_eq_getElem_cons hib
      by_cases he : a[i] = b[i]
      · repeat (first | apply qqa | apply qqb | apply qqc | apply qqd | apply qqe | apply qqf | apply qqg | apply qqh | refine qqi rfl ?_ | ((first | (refine WK.rgn ?_ ?_; kernel_rfl) | refine AtCall.now ?_); simp (config := { maxSteps := 1000000 }) only [SS, qg0, qgb, qgl, qgi, forall_const, tor, tlen2, tpick, Int.reduceEq, Int.reduceNeg, Nat.reduceGT, Nat.reduceLT, Nat.reduceLeDiff, Nat.reduceEqDiff, ↓reduceIte, reduceCtorEq, Int.reduceToNat, Int.reduceLE, Int.reduceLT, Nat.reduceAdd, Nat.reduceMul, h0, h1, h5, hia, hib, hx, hy, e1, e2, he, ff_46]) | refine qqj rfl ?_ | refine qqk rfl ?_)
        refine ih (a.length - (i + 1)) (by omega) _ ⟨i + 1, rfl, rfl, h0, h1, ?_, hia, hib, rfl, ?_⟩
        · simp only [packed, fset_apply, Nat.reduceEqDiff, ↓reduceIte, List.getD_cons_zero, List.getD_cons_succ, ff_46]
          unfold maxL at hal; rw [wrap_in (by omega) (by omega)]; rfl
        · rw [← hl, d1, d2, less, if_pos he]
      · repeat (first | apply qqa | apply qqb | apply qqc | apply qqd | apply qqe | apply qqf | apply qqg | apply qqh | refine qqi rfl ?_ | ((first | (refine WK.rgn ?_ ?_; kernel_rfl) | refine AtCall.now ?_); simp (config := { maxSteps := 1000000 }) only [SS, qg0, qgb, qgl, qgi, forall_const, tor, tlen2, tpick, Int.reduceEq, Int.reduceNeg, Nat.reduceGT, Nat.reduceLT, Nat.reduceLeDiff, Nat.reduceEqDiff, ↓reduceIte, reduceCtorEq, Int.reduceToNat, Int.reduceLE, Int.reduceLT, Nat.reduceAdd, Nat.reduceMul, h0, h1, h5, hia, hib, hx, hy, e1, e2, he, ff_46]) | refine qqj rfl ?_ | refine qqk rfl ?_)
        (first | refine WK.retNil ⟨Or.inr rfl, _, rfl, ?_, ?_⟩ | refine WK.skipNil ⟨Or.inl rfl, _, rfl, ?_, ?_⟩)
        · exact fun _ _ => rfl
        · simp only [packed, fset_apply, Nat.reduceEqDiff, ↓reduceIte, List.getD_cons_zero, List.getD_cons_succ, ff_46]
          rw [← hl, d1, d2, less, if_neg he]; trivial
    · repeat (first | apply qqa | apply qqb | apply qqc | apply qqd | apply qqe | apply qqf | apply qqg | apply qqh | refine qqi rfl ?_ | ((first | (refine WK.rgn ?_ ?_; kernel_rfl) | refine AtCall.now ?_); simp (config := { maxSteps := 1000000 }) only [SS, qg0, qgb, qgl, qgi, forall_const, tor, tlen2, tpick, Int.reduceEq, Int.reduceNeg, Nat.reduceGT, Nat.reduceLT, Nat.reduceLeDiff, Nat.reduceEqDiff, ↓reduceIte, reduceCtorEq, Int.reduceToNat, Int.reduceLE, Int.reduceLT, Nat.reduceAdd, Nat.reduceMul, h0, h1, h5, hia, hib, ff_46]) | refine qqj rfl ?_ | refine qqk rfl ?_)
      (first | refine WK.retNil ⟨Or.inr rfl, _, rfl, ?_, ?_⟩ | refine WK.skipNil ⟨Or.inl rfl, _, rfl, ?_, ?_⟩)
      · exact fun _ _ => rfl
      · simp only [packed, fset_apply, Nat.reduceEqDiff, ↓reduceIte, List.getD_cons_zero, List.getD_cons_succ, ff_46]
        rw [← hl, List.drop_eq_nil_of_le (show b.length ≤ i by omega)]
        simp [less]; omega
  · repeat (first | apply qqa | apply qqb | apply qqc | apply qqd | apply qqe | apply qqf | apply qqg | apply qqh | refine qqi rfl ?_ | ((first | (refine WK.rgn ?_ ?_; kernel_rfl) | refine AtCall.now ?_); simp (config := { maxSteps := 1000000 }) only [SS, qg0, qgb, qgl, qgi, forall_const, tor, tlen2, tpick, Int.reduceEq, Int.reduceNeg, Nat.reduceGT, Nat.reduceLT, Nat.reduceLeDiff, Nat.reduceEqDiff, ↓reduceIte, reduceCtorEq, Int.reduceToNat, Int.reduceLE, Int.reduceLT, Nat.reduceAdd, Nat.reduceMul, h0, h1, h5, hia, ff_46]) | refine qqj rfl ?_ | refine qqk rfl ?_)
    (first | refine WK.retNil ⟨Or.inr rfl, _, rfl, ?_, ?_⟩ | refine WK.skipNil ⟨Or.inl rfl, _, rfl, ?_, ?_⟩)
    · exact fun _ _ => rfl
    · simp only [packed, fset_apply, Nat.reduceEqDiff, ↓reduceIte, List.getD_cons_zero, List.getD_cons_succ, ff_46]
      rw [← hl, List.drop_eq_nil_of_le (show a.length ≤ i by omega)]
      simp [less]; omega
def same (a b : List Int) : Bool := !less a b && !less b a
theorem same_gives {pa pb : Option Addr} {a b : List Int} {n : Nat} {H : Heap} (ha : RA (Value.int .i64) H pa a) (hb : RA (Value.int .i64) H pb b) (hal : a.length ≤ maxL) (hbl : b.length ≤ maxL) :
    Gives Try.prog 14 [.slice pa a.length a.length, .slice pb b.length b.length] n H fun v n' H' => v = .bool (same a b) ∧ n' = n ∧ H' = H := by
  refine Gives.of orders ok14 (Nat.le_of_ble_eq_true rfl) ?_
  repeat (first | apply qqa | apply qqb | apply qqc | apply qqd | apply qqe | apply qqf | apply qqg | apply qqh | refine qqi rfl ?_ | ((first | (refine WK.rgn ?_ ?_; kernel_rfl) | refine AtCall.now ?_); simp (config := { maxSteps := 1000000 }) only [SS, qg0, forall_const, vun, tpick, Int.reduceEq, Int.reduceNeg, Nat.reduceGT, Nat.reduceLT, Nat.reduceLeDiff, Nat.reduceEqDiff, ↓reduceIte, reduceCtorEq, Int.reduceToNat, Int.reduceLE, Int.reduceLT, Nat.reduceAdd, Nat.reduceMul]) | refine qqj rfl ?_ | refine qqk rfl ?_)
  refine AtCall.by (less_gives ha hb hal) ?_
  rintro v n' H' hk ⟨rfl, rfl, rfl⟩
  cases h1 : less a b
  · simp (config := { maxSteps := 1000000 }) only [SS, qg0, forall_const, vun, tpick, Int.reduceEq, Int.reduceNeg, Nat.reduceGT, Nat.reduceLT, Nat.reduceLeDiff, Nat.reduceEqDiff, ↓reduceIte, reduceCtorEq, Int.reduceToNat, Int.reduceLE, Int.reduceLT, Nat.reduceAdd, Nat.reduceMul]
    refine AtCall.by (less_gives hb ha hbl) ?_
    rintro v n' H' hk ⟨rfl, rfl, rfl⟩
    simp (config := { maxSteps := 1000000 }) only [SS, qg0, forall_const, vun, tpick, Int.reduceEq, Int.reduceNeg, Nat.reduceGT, Nat.reduceLT, Nat.reduceLeDiff, Nat.reduceEqDiff, ↓reduceIte, reduceCtorEq, Int.reduceToNat, Int.reduceLE, Int.reduceLT, Nat.reduceAdd, Nat.reduceMul]
    repeat (first | apply qqa | apply qqb | apply qqc | apply qqd | apply qqe | apply qqf | apply qqg | apply qqh | refine qqi rfl ?_ | ((first | (refine WK.rgn ?_ ?_; kernel_rfl) | refine AtCall.now ?_); simp (config := { maxSteps := 1000000 }) only [SS, qg0, forall_const, vun, tpick, Int.reduceEq, Int.reduceNeg, Nat.reduceGT, Nat.reduceLT, Nat.reduceLeDiff, Nat.reduceEqDiff, ↓reduceIte, reduceCtorEq, Int.reduceToNat, Int.reduceLE, Int.reduceLT, Nat.reduceAdd, Nat.reduceMul]) | refine qqj rfl ?_ | refine qqk rfl ?_)
    (first | refine WK.retNil ⟨Or.inr rfl, _, rfl, ?_, ?_⟩ | refine WK.skipNil ⟨Or.inl rfl, _, rfl, ?_, ?_⟩)
    · exact fun _ _ => rfl
    · simp only [packed, fset_apply, Nat.reduceEqDiff, ↓reduceIte, List.getD_cons_zero, List.getD_cons_succ, same, h1]
      simp
  · simp (config := { maxSteps := 1000000 }) only [SS, qg0, forall_const, vun, tpick, Int.reduceEq, Int.reduceNeg, Nat.reduceGT, Nat.reduceLT, Nat.reduceLeDiff, Nat.reduceEqDiff, ↓reduceIte, reduceCtorEq, Int.reduceToNat, Int.reduceLE, Int.reduceLT, Nat.reduceAdd, Nat.reduceMul]
    repeat (first | apply qqa | apply qqb | apply qqc | apply qqd | apply qqe | apply qqf | apply qqg | apply qqh | refine qqi rfl ?_ | ((first | (refine WK.rgn ?_ ?_; kernel_rfl) | refine AtCall.now ?_); simp (config := { maxSteps := 1000000 }) only [SS, qg0, forall_const, vun, tpick, Int.reduceEq, Int.reduceNeg, Nat.reduceGT, Nat.reduceLT, Nat.reduceLeDiff, Nat.reduceEqDiff, ↓reduceIte, reduceCtorEq, Int.reduceToNat, Int.reduceLE, Int.reduceLT, Nat.reduceAdd, Nat.reduceMul]) | refine qqj rfl ?_ | refine qqk rfl ?_)
    (first | refine WK.retNil ⟨Or.inr rfl, _, rfl, ?_, ?_⟩ | refine WK.skipNil ⟨Or.inl rfl, _, rfl, ?_, ?_⟩)
    · exact fun _ _ => rfl
    · simp only [packed, fset_apply, Nat.reduceEqDiff, ↓reduceIte, List.getD_cons_zero, List.getD_cons_succ, same, h1]
      simp
end Go.Proofs.Ytpdlmpbhohinpaa
