/- A part of a proof. Its conditions: none. -/
import Derived.Test.YtpdlmpbhohinpaaAmCChPush
import Derived.Test.YtpdlmpbhohinpaaAmC
set_option linter.all false
namespace Go.Proofs.Ytpdlmpbhohinpaa
open Go.AM Go.RowKit
set_option maxRecDepth 100000
set_option maxHeartbeats 4000000 in
theorem good1_gives {H : Heap} {n x y : Nat} {s : Int} {hs : List Bool} (hy : H y = .cells [.slice (some ⟨x, 0, none⟩) hs.length hs.length] 58 true) (hx : H x = .cells (hs.map .bool) 4 true) (hs' : s < hs.length) :
    Gives Try.prog 40 [.int .i64 s, .pointer (some ⟨y, 0, none⟩)] n H fun v _ _ => v = .bool (!(decide (s < 0) || hs.getD s.toNat false)) := by
  refine Gives.of orders ok40 (Nat.le_of_ble_eq_true rfl) ?_
  repeat (first | apply qqa | apply qqb | apply qqc | apply qqd | apply qqe | apply qqf | apply qqg | apply qqh | refine qqi rfl ?_)
  repeat (first | apply qqa | apply qqb | apply qqc | apply qqd | apply qqe | apply qqf | apply qqg | apply qqh | refine qqi rfl ?_ | ((first | (refine WK.rgn ?_ ?_; kernel_rfl) | refine AtCall.now ?_); simp (config := { maxSteps := 1000000 }) only [SS, qg0, qgl, qgi, forall_const, vun, tpick, Int.reduceEq, Int.reduceNeg, Nat.reduceGT, Nat.reduceLT, Nat.reduceLeDiff, Nat.reduceEqDiff, ↓reduceIte, reduceCtorEq, Int.reduceToNat, Int.reduceLE, Int.reduceLT, Nat.reduceAdd, Nat.reduceMul, ff_40]) | refine qqj rfl ?_ | refine qqk rfl ?_)
  refine AtCall.by (isVar_gives _ _ _) ?_
  rintro v n2 H2 hk2 ⟨rfl, rfl, rfl⟩
  by_cases h0 : 0 ≤ s
  · obtain ⟨j, rfl⟩ := Int.eq_ofNat_of_zero_le h0
    have hj : j < hs.length := by omega
    have hg : (hs.map Value.bool)[j]? = some (.bool hs[j]) := by rw [List.getElem?_map, List.getElem?_eq_getElem hj]; rfl
    simp (config := { maxSteps := 1000000 }) only [SS, qg0, qgl, qgi, forall_const, vun, tpick, Int.reduceEq, Int.reduceNeg, Nat.reduceGT, Nat.reduceLT, Nat.reduceLeDiff, Nat.reduceEqDiff, ↓reduceIte, reduceCtorEq, Int.reduceToNat, Int.reduceLE, Int.reduceLT, Nat.reduceAdd, Nat.reduceMul, hy, hx, h0, hj, hg, ff_40]
    repeat (first | apply qqa | apply qqb | apply qqc | apply qqd | apply qqe | apply qqf | apply qqg | apply qqh | refine qqi rfl ?_ | ((first | (refine WK.rgn ?_ ?_; kernel_rfl) | refine AtCall.now ?_); simp (config := { maxSteps := 1000000 }) only [SS, qg0, qgl, qgi, forall_const, vun, tpick, Int.reduceEq, Int.reduceNeg, Nat.reduceGT, Nat.reduceLT, Nat.reduceLeDiff, Nat.reduceEqDiff, ↓reduceIte, reduceCtorEq, Int.reduceToNat, Int.reduceLE, Int.reduceLT, Nat.reduceAdd, Nat.reduceMul, ff_40]) | refine qqj rfl ?_ | refine qqk rfl ?_)
    (first | refine WK.retNil ⟨Or.inr rfl, _, rfl, ?_, ?_⟩ | refine WK.skipNil ⟨Or.inl rfl, _, rfl, ?_, ?_⟩)
    · exact fun _ _ => rfl
    · simp only [packed, fset_apply, Nat.reduceEqDiff, ↓reduceIte, List.getD_cons_zero, List.getD_cons_succ, ff_40]
      have : ¬ ((j : Int) < 0) := by omega
      simp [this, hj]
  · simp (config := { maxSteps := 1000000 }) only [SS, qg0, qgl, qgi, forall_const, vun, tpick, Int.reduceEq, Int.reduceNeg, Nat.reduceGT, Nat.reduceLT, Nat.reduceLeDiff, Nat.reduceEqDiff, ↓reduceIte, reduceCtorEq, Int.reduceToNat, Int.reduceLE, Int.reduceLT, Nat.reduceAdd, Nat.reduceMul, h0, ff_40]
    repeat (first | apply qqa | apply qqb | apply qqc | apply qqd | apply qqe | apply qqf | apply qqg | apply qqh | refine qqi rfl ?_ | ((first | (refine WK.rgn ?_ ?_; kernel_rfl) | refine AtCall.now ?_); simp (config := { maxSteps := 1000000 }) only [SS, qg0, qgl, qgi, forall_const, vun, tpick, Int.reduceEq, Int.reduceNeg, Nat.reduceGT, Nat.reduceLT, Nat.reduceLeDiff, Nat.reduceEqDiff, ↓reduceIte, reduceCtorEq, Int.reduceToNat, Int.reduceLE, Int.reduceLT, Nat.reduceAdd, Nat.reduceMul, ff_40]) | refine qqj rfl ?_ | refine qqk rfl ?_)
    (first | refine WK.retNil ⟨Or.inr rfl, _, rfl, ?_, ?_⟩ | refine WK.skipNil ⟨Or.inl rfl, _, rfl, ?_, ?_⟩)
    · exact fun _ _ => rfl
    · simp only [packed, fset_apply, Nat.reduceEqDiff, ↓reduceIte, List.getD_cons_zero, List.getD_cons_succ, ff_40]
      have : s < 0 := by omega
      simp [this]
set_option maxHeartbeats 4000000 in
theorem index_gives {F n : Nat} {H : Heap} {captured : List Value} {p : Int → Bool} {l : List Int} {a : Option Addr} (hl : l.length ≤ maxL) (hw : WF n H) (ha : RA (Value.int .i64) H a l)
    (hp : ∀ s ∈ l, ∀ n1 H1, Kp n H n1 H1 → Gives Try.prog F (.int .i64 s :: captured) n1 H1 fun v _ _ => v = .bool (p s)) :
    Gives Try.prog 65 [.slice a l.length l.length, .func (.func F) #[] captured.toArray] n H fun v _ _ => ∃ i : Int, v = .int .i64 i ∧ (0 ≤ i ↔ l.any p = true) := by
  refine Gives.of orders ok65 (Nat.le_of_ble_eq_true rfl) ?_
  unfold maxL at hl
  repeat (first | apply qqa | apply qqb | apply qqc | apply qqd | apply qqe | apply qqf | apply qqg | apply qqh | refine qqi rfl ?_)
  repeat (first | apply qqa | apply qqb | apply qqc | apply qqd | apply qqe | apply qqf | apply qqg | apply qqh | refine qqi rfl ?_ | ((first | (refine WK.rgn ?_ ?_; kernel_rfl) | refine AtCall.now ?_); simp (config := { maxSteps := 1000000 }) only [SS, qg0, qgb, qgl, qgi, forall_const, tor, tlen2, Int.reduceEq, Int.reduceNeg, Nat.reduceGT, Nat.reduceLT, Nat.reduceLeDiff, Nat.reduceEqDiff, ↓reduceIte, reduceCtorEq, Int.reduceToNat, Int.reduceLE, Int.reduceLT, Nat.reduceAdd, Nat.reduceMul, ff_65]) | refine qqj rfl ?_ | refine qqk rfl ?_)
  refine WK.loop (fun k s => ∃ j : Nat, Kp n H s.n s.H ∧ s.f 0 = .slice a l.length l.length ∧ s.f 1 = .func (.func F) #[] captured.toArray ∧ s.f 7 = .int .i64 (l.length : Nat) ∧ s.f 8 = .int .i64 (j : Nat) ∧ j ≤ l.length ∧ (l.take j).any p = false ∧ k = l.length - j) l.length ?_ ?_
  · exact ⟨0, .refl n H, rfl, rfl, rfl, rfl, Nat.zero_le _, rfl, rfl⟩
  rintro kk ⟨f, n1, H1⟩ ⟨j, hk, f0, f1, f7, f8, hj, hn, rfl⟩ ih
  simp only at f0 f1 f7 f8 hk ih
  by_cases hlt : j < l.length
  · obtain ⟨z, kz, ds, tz, oz, rfl, hz, e⟩ := (ha.mono hw hk).at hlt
    have htj : l.take (j + 1) = l.take j ++ [l[j]] := List.take_succ_eq_append_getElem hlt
    repeat (first | apply qqa | apply qqb | apply qqc | apply qqd | apply qqe | apply qqf | apply qqg | apply qqh | refine qqi rfl ?_ | ((first | (refine WK.rgn ?_ ?_; kernel_rfl) | refine AtCall.now ?_); simp (config := { maxSteps := 1000000 }) only [SS, qg0, qgb, qgl, qgi, forall_const, tor, tlen2, Int.reduceEq, Int.reduceNeg, Nat.reduceGT, Nat.reduceLT, Nat.reduceLeDiff, Nat.reduceEqDiff, ↓reduceIte, reduceCtorEq, Int.reduceToNat, Int.reduceLE, Int.reduceLT, Nat.reduceAdd, Nat.reduceMul, f0, f1, f7, f8, hlt, hz, e, ff_65]) | refine qqj rfl ?_ | refine qqk rfl ?_)
    refine AtCall.by (hp _ (List.getElem_mem hlt) n1 H1 hk) ?_
    rintro v n2 H2 hk2 rfl
    cases hb : p l[j] with
    | true =>
      simp (config := { maxSteps := 1000000 }) only [SS, qg0, qgb, qgl, qgi, forall_const, tor, tlen2, Int.reduceEq, Int.reduceNeg, Nat.reduceGT, Nat.reduceLT, Nat.reduceLeDiff, Nat.reduceEqDiff, ↓reduceIte, reduceCtorEq, Int.reduceToNat, Int.reduceLE, Int.reduceLT, Nat.reduceAdd, Nat.reduceMul, ff_65]
      repeat (first | apply qqa | apply qqb | apply qqc | apply qqd | apply qqe | apply qqf | apply qqg | apply qqh | refine qqi rfl ?_ | ((first | (refine WK.rgn ?_ ?_; kernel_rfl) | refine AtCall.now ?_); simp (config := { maxSteps := 1000000 }) only [SS, qg0, qgb, qgl, qgi, forall_const, tor, tlen2, Int.reduceEq, Int.reduceNeg, Nat.reduceGT, Nat.reduceLT, Nat.reduceLeDiff, Nat.reduceEqDiff, ↓reduceIte, reduceCtorEq, Int.reduceToNat, Int.reduceLE, Int.reduceLT, Nat.reduceAdd, Nat.reduceMul, ff_65]) | refine qqj rfl ?_ | refine qqk rfl ?_)
      (first | refine WK.retNil ⟨Or.inr rfl, _, rfl, ?_, ?_⟩ | refine WK.skipNil ⟨Or.inl rfl, _, rfl, ?_, ?_⟩)
      · exact (hk.trans hk2).keep
      · simp only [packed, fset_apply, Nat.reduceEqDiff, ↓reduceIte, List.getD_cons_zero, List.getD_cons_succ, ff_65]
        exact ⟨_, rfl, fun _ => List.any_eq_true.2 ⟨_, List.getElem_mem hlt, hb⟩, fun _ => by omega⟩
    | false =>
      simp (config := { maxSteps := 1000000 }) only [SS, qg0, qgb, qgl, qgi, forall_const, tor, tlen2, Int.reduceEq, Int.reduceNeg, Nat.reduceGT, Nat.reduceLT, Nat.reduceLeDiff, Nat.reduceEqDiff, ↓reduceIte, reduceCtorEq, Int.reduceToNat, Int.reduceLE, Int.reduceLT, Nat.reduceAdd, Nat.reduceMul, ff_65]
      repeat (first | apply qqa | apply qqb | apply qqc | apply qqd | apply qqe | apply qqf | apply qqg | apply qqh | refine qqi rfl ?_ | ((first | (refine WK.rgn ?_ ?_; kernel_rfl) | refine AtCall.now ?_); simp (config := { maxSteps := 1000000 }) only [SS, qg0, qgb, qgl, qgi, forall_const, tor, tlen2, Int.reduceEq, Int.reduceNeg, Nat.reduceGT, Nat.reduceLT, Nat.reduceLeDiff, Nat.reduceEqDiff, ↓reduceIte, reduceCtorEq, Int.reduceToNat, Int.reduceLE, Int.reduceLT, Nat.reduceAdd, Nat.reduceMul, f8, ff_65]) | refine qqj rfl ?_ | refine qqk rfl ?_)
      refine ih (l.length - (j + 1)) (by omega) _ ⟨j + 1, hk.trans hk2, f0, f1, f7, ?_, hlt, ?_, rfl⟩
      · simp only [packed, fset_apply, Nat.reduceEqDiff, ↓reduceIte, List.getD_cons_zero, List.getD_cons_succ, f8, ff_65]
        rw [wrap_in (by omega) (by omega)]; rfl
      · rw [htj, List.any_append, hn]; simp [hb]
  · repeat (first | apply qqa | apply qqb | apply qqc | apply qqd | apply qqe | apply qqf | apply qqg | apply qqh | refine qqi rfl ?_ | ((first | (refine WK.rgn ?_ ?_; kernel_rfl) | refine AtCall.now ?_); simp (config := { maxSteps := 1000000 }) only [SS, qg0, qgb, qgl, qgi, forall_const, tor, tlen2, Int.reduceEq, Int.reduceNeg, Nat.reduceGT, Nat.reduceLT, Nat.reduceLeDiff, Nat.reduceEqDiff, ↓reduceIte, reduceCtorEq, Int.reduceToNat, Int.reduceLE, Int.reduceLT, Nat.reduceAdd, Nat.reduceMul, f0, f1, f7, f8, hlt, ff_65]) | refine qqj rfl ?_ | refine qqk rfl ?_)
    (first | refine WK.retNil ⟨Or.inr rfl, _, rfl, ?_, ?_⟩ | refine WK.skipNil ⟨Or.inl rfl, _, rfl, ?_, ?_⟩)
    · exact hk.keep
    · simp only [packed, fset_apply, Nat.reduceEqDiff, ↓reduceIte, List.getD_cons_zero, List.getD_cons_succ, ff_65]
      rw [List.take_of_length_le (by omega)] at hn
      exact ⟨-1, rfl, fun h => absurd h (by omega), fun h => by rw [hn] at h; cases h⟩
set_option maxHeartbeats 4000000 in
theorem contains_gives {F n : Nat} {H : Heap} {captured : List Value} {p : Int → Bool} {l : List Int} {a : Option Addr} (hl : l.length ≤ maxL) (hw : WF n H) (ha : RA (Value.int .i64) H a l)
    (hp : ∀ s ∈ l, ∀ n1 H1, Kp n H n1 H1 → Gives Try.prog F (.int .i64 s :: captured) n1 H1 fun v _ _ => v = .bool (p s)) :
    Gives Try.prog 39 [.slice a l.length l.length, .func (.func F) #[] captured.toArray] n H fun v _ _ => v = .bool (l.any p) := by
  refine Gives.of orders ok39 (Nat.le_of_ble_eq_true rfl) ?_
  repeat (first | apply qqa | apply qqb | apply qqc | apply qqd | apply qqe | apply qqf | apply qqg | apply qqh | refine qqi rfl ?_)
  repeat (first | apply qqa | apply qqb | apply qqc | apply qqd | apply qqe | apply qqf | apply qqg | apply qqh | refine qqi rfl ?_ | ((first | (refine WK.rgn ?_ ?_; kernel_rfl) | refine AtCall.now ?_); simp (config := { maxSteps := 1000000 }) only [SS, qg0, qgb, forall_const, tor, Int.reduceEq, Int.reduceNeg, Nat.reduceGT, Nat.reduceLT, Nat.reduceLeDiff, Nat.reduceEqDiff, ↓reduceIte, reduceCtorEq, Int.reduceToNat, Int.reduceLE, Int.reduceLT, Nat.reduceAdd, Nat.reduceMul]) | refine qqj rfl ?_ | refine qqk rfl ?_)
  refine AtCall.by (index_gives hl hw ha hp) ?_
  rintro v n2 H2 hk2 ⟨i, rfl, hi⟩
  simp (config := { maxSteps := 1000000 }) only [SS, qg0, qgb, forall_const, tor, Int.reduceEq, Int.reduceNeg, Nat.reduceGT, Nat.reduceLT, Nat.reduceLeDiff, Nat.reduceEqDiff, ↓reduceIte, reduceCtorEq, Int.reduceToNat, Int.reduceLE, Int.reduceLT, Nat.reduceAdd, Nat.reduceMul]
  repeat (first | apply qqa | apply qqb | apply qqc | apply qqd | apply qqe | apply qqf | apply qqg | apply qqh | refine qqi rfl ?_ | ((first | (refine WK.rgn ?_ ?_; kernel_rfl) | refine AtCall.now ?_); simp (config := { maxSteps := 1000000 }) only [SS, qg0, qgb, forall_const, tor, Int.reduceEq, Int.reduceNeg, Nat.reduceGT, Nat.reduceLT, Nat.reduceLeDiff, Nat.reduceEqDiff, ↓reduceIte, reduceCtorEq, Int.reduceToNat, Int.reduceLE, Int.reduceLT, Nat.reduceAdd, Nat.reduceMul]) | refine qqj rfl ?_ | refine qqk rfl ?_)
  (first | refine WK.retNil ⟨Or.inr rfl, _, rfl, ?_, ?_⟩ | refine WK.skipNil ⟨Or.inl rfl, _, rfl, ?_, ?_⟩)
  · exact hk2.keep
  · simp only [packed, fset_apply, Nat.reduceEqDiff, ↓reduceIte, List.getD_cons_zero, List.getD_cons_succ]
    cases hb : l.any p with
    | true => rw [hb] at hi; simp [hi.2 rfl]
    | false => rw [hb] at hi; simp at hi; simp; omega
end Go.Proofs.Ytpdlmpbhohinpaa
