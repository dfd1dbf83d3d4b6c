/- A part of a proof. Its conditions: none. -/
import Derived.Test.YtpdlmpbhohinpaaAmCFacts
import Derived.Test.YtpdlmpbhohinpaaAmCLenS
import Derived.Test.YtpdlmpbhohinpaaAmD
set_option linter.all false
namespace Go.Proofs.Ytpdlmpbhohinpaa
open Go.AM Go.RowKit
set_option maxRecDepth 100000
theorem isnan_gives (a : Int) (n : Nat) (H : Heap) : Gives Try.prog 101 [.int .i64 a] n H fun v n' H' => v = .bool false ∧ n' = n ∧ H' = H := by
  refine Gives.of orders ok101 (Nat.le_of_ble_eq_true rfl) ?_
  repeat (first | apply qqa | apply qqb | apply qqc | apply qqd | apply qqe | apply qqf | apply qqg | apply qqh | refine qqi rfl ?_ | ((first | (refine WK.rgn ?_ ?_; kernel_rfl) | refine AtCall.now ?_); simp (config := { maxSteps := 1000000 }) only [SS, qg0, qgb, forall_const, tor, Int.reduceEq, Int.reduceNeg, Nat.reduceGT, Nat.reduceLT, Nat.reduceLeDiff, Nat.reduceEqDiff, ↓reduceIte, reduceCtorEq, Int.reduceToNat, Int.reduceLE, Int.reduceLT, Nat.reduceAdd, Nat.reduceMul, ff_101]) | refine qqj rfl ?_ | refine qqk rfl ?_)
  (first | refine WK.retNil ⟨Or.inr rfl, _, rfl, ?_, ?_⟩ | refine WK.skipNil ⟨Or.inl rfl, _, rfl, ?_, ?_⟩)
  · exact fun _ _ => rfl
  · simp only [packed, fset_apply, Nat.reduceEqDiff, ↓reduceIte, List.getD_cons_zero, List.getD_cons_succ, ff_101]
    simp
theorem lessI_gives (a b : Int) (n : Nat) (H : Heap) : Gives Try.prog 86 [.int .i64 a, .int .i64 b] n H fun v n' H' => v = .bool (decide (a < b)) ∧ n' = n ∧ H' = H := by
  refine Gives.of orders ok86 (Nat.le_of_ble_eq_true rfl) ?_
  repeat (first | apply qqa | apply qqb | apply qqc | apply qqd | apply qqe | apply qqf | apply qqg | apply qqh | refine qqi rfl ?_ | ((first | (refine WK.rgn ?_ ?_; kernel_rfl) | refine AtCall.now ?_); simp (config := { maxSteps := 1000000 }) only [SS, qg0, qgb, forall_const, tor, vun, tpick, Int.reduceEq, Int.reduceNeg, Nat.reduceGT, Nat.reduceLT, Nat.reduceLeDiff, Nat.reduceEqDiff, ↓reduceIte, reduceCtorEq, Int.reduceToNat, Int.reduceLE, Int.reduceLT, Nat.reduceAdd, Nat.reduceMul]) | refine qqj rfl ?_ | refine qqk rfl ?_)
  refine AtCall.by (isnan_gives a _ _) ?_
  rintro v n' H' hk' ⟨rfl, rfl, rfl⟩
  by_cases h : a < b
  · simp (config := { maxSteps := 1000000 }) only [SS, qg0, qgb, forall_const, tor, vun, tpick, Int.reduceEq, Int.reduceNeg, Nat.reduceGT, Nat.reduceLT, Nat.reduceLeDiff, Nat.reduceEqDiff, ↓reduceIte, reduceCtorEq, Int.reduceToNat, Int.reduceLE, Int.reduceLT, Nat.reduceAdd, Nat.reduceMul, h]
    repeat (first | apply qqa | apply qqb | apply qqc | apply qqd | apply qqe | apply qqf | apply qqg | apply qqh | refine qqi rfl ?_ | ((first | (refine WK.rgn ?_ ?_; kernel_rfl) | refine AtCall.now ?_); simp (config := { maxSteps := 1000000 }) only [SS, qg0, qgb, forall_const, tor, vun, tpick, Int.reduceEq, Int.reduceNeg, Nat.reduceGT, Nat.reduceLT, Nat.reduceLeDiff, Nat.reduceEqDiff, ↓reduceIte, reduceCtorEq, Int.reduceToNat, Int.reduceLE, Int.reduceLT, Nat.reduceAdd, Nat.reduceMul, h]) | refine qqj rfl ?_ | refine qqk rfl ?_)
    (first | refine WK.retNil ⟨Or.inr rfl, _, rfl, ?_, ?_⟩ | refine WK.skipNil ⟨Or.inl rfl, _, rfl, ?_, ?_⟩)
    · exact fun _ _ => rfl
    · simp only [packed, fset_apply, Nat.reduceEqDiff, ↓reduceIte, List.getD_cons_zero, List.getD_cons_succ, h, decide_true]
      simp
  · simp (config := { maxSteps := 1000000 }) only [SS, qg0, qgb, forall_const, tor, vun, tpick, Int.reduceEq, Int.reduceNeg, Nat.reduceGT, Nat.reduceLT, Nat.reduceLeDiff, Nat.reduceEqDiff, ↓reduceIte, reduceCtorEq, Int.reduceToNat, Int.reduceLE, Int.reduceLT, Nat.reduceAdd, Nat.reduceMul, h]
    repeat (first | apply qqa | apply qqb | apply qqc | apply qqd | apply qqe | apply qqf | apply qqg | apply qqh | refine qqi rfl ?_ | ((first | (refine WK.rgn ?_ ?_; kernel_rfl) | refine AtCall.now ?_); simp (config := { maxSteps := 1000000 }) only [SS, qg0, qgb, forall_const, tor, vun, tpick, Int.reduceEq, Int.reduceNeg, Nat.reduceGT, Nat.reduceLT, Nat.reduceLeDiff, Nat.reduceEqDiff, ↓reduceIte, reduceCtorEq, Int.reduceToNat, Int.reduceLE, Int.reduceLT, Nat.reduceAdd, Nat.reduceMul, h]) | refine qqj rfl ?_ | refine qqk rfl ?_)
    (first | refine WK.retNil ⟨Or.inr rfl, _, rfl, ?_, ?_⟩ | refine WK.skipNil ⟨Or.inl rfl, _, rfl, ?_, ?_⟩)
    · exact fun _ _ => rfl
    · simp only [packed, fset_apply, Nat.reduceEqDiff, ↓reduceIte, List.getD_cons_zero, List.getD_cons_succ, h, decide_false]
      simp
def le2 (l : List Int) : Prop := l.Pairwise (· ≤ ·)
theorem swap_cells {s1 s2 rest : List Int} {z x : Int} : ((((s1 ++ [z]) ++ x :: (s2 ++ rest)).map (Value.int .i64)).set (s1.length + 1) (.int .i64 z)).set s1.length (.int .i64 x) = (s1 ++ x :: (z :: s2 ++ rest)).map (Value.int .i64) := by
  simp [List.set_append]
theorem at_x {s1 s2 : List Int} {x : Int} : ((s1 ++ x :: s2).map (Value.int .i64))[s1.length]? = some (.int .i64 x) := by simp
theorem at_z {s1 s2 : List Int} {z : Int} : (((s1 ++ [z]) ++ s2).map (Value.int .i64))[s1.length]? = some (.int .i64 z) := by simp
set_option maxHeartbeats 8000000 in
theorem inser_gives {y n : Nat} {H : Heap} {l : List Int} (hy : H y = .cells (l.map (Value.int .i64)) 3 true) (hyn : y < n) (hl : l.length ≤ 1000000) :
    GivesX Try.prog (fun z => z = y) 80 [.slice (some ⟨y, 0, none⟩) l.length l.length, .int .i64 0, .int .i64 (l.length : Nat)] n H fun _ n' H' => n' = n ∧ (∀ z, z ≠ y → H' z = H z) ∧ ∃ l', H' y = .cells (l'.map (Value.int .i64)) 3 true ∧ l'.Perm l ∧ le2 l' := by
  refine GivesX.of orders ok80 (Nat.le_of_ble_eq_true rfl) ?_
  have w01 : IntKind.wrap .i64 (0 + 1) = 1 := rfl
  repeat (first | apply qqa | apply qqb | apply qqc | apply qqd | apply qqe | apply qqf | apply qqg | apply qqh | refine qqi rfl ?_ | ((first | (refine WK.rgn ?_ ?_; kernel_rfl) | refine AtCall.now ?_); simp (config := { maxSteps := 1000000 }) only [SS, qg0, qgb, qgl, qgs, qgi, forall_const, tor, Go.AM.splice, one, tpick, Int.reduceEq, Int.reduceNeg, Nat.reduceGT, Nat.reduceLT, Nat.reduceLeDiff, Nat.reduceEqDiff, ↓reduceIte, reduceCtorEq, Int.reduceToNat, Int.reduceLE, Int.reduceLT, Nat.reduceAdd, Nat.reduceMul, w01, ff_80]) | refine qqj rfl ?_ | refine qqk rfl ?_)
  refine WK.loop (fun k s => ∃ (i : Nat) (c : List Int), s.n = n ∧ (∀ z, z ≠ y → s.H z = H z) ∧ s.H y = .cells (c.map (Value.int .i64)) 3 true ∧ c.Perm l ∧ le2 (c.take i) ∧ 1 ≤ i ∧ s.f 0 = .slice (some ⟨y, 0, none⟩) l.length l.length ∧ s.f 1 = .int .i64 0 ∧ s.f 2 = .int .i64 (l.length : Nat) ∧ s.f 6 = .int .i64 (i : Nat) ∧ k = l.length - i) (l.length - 1) ?_ ?_
  · exact ⟨1, l, rfl, fun _ _ => rfl, hy, .refl _, by
      cases l with
      | nil => exact List.Pairwise.nil
      | cons a l => simp [le2], Nat.le_refl _, rfl, rfl, rfl, rfl, rfl⟩
  rintro k ⟨f, n1, H1⟩ ⟨i, c, rfl, hne, hy1, hp, hs, hi1, f0, f1, f2, f6, rfl⟩ ih
  simp only at f0 f1 f2 f6 hne hy1 ih
  have hcl : c.length = l.length := hp.length_eq
  by_cases hlt : i < l.length
  · repeat (first | apply qqa | apply qqb | apply qqc | apply qqd | apply qqe | apply qqf | apply qqg | apply qqh | refine qqi rfl ?_ | ((first | (refine WK.rgn ?_ ?_; kernel_rfl) | refine AtCall.now ?_); simp (config := { maxSteps := 1000000 }) only [SS, qg0, qgb, qgl, qgs, qgi, forall_const, tor, Go.AM.splice, one, tpick, Int.reduceEq, Int.reduceNeg, Nat.reduceGT, Nat.reduceLT, Nat.reduceLeDiff, Nat.reduceEqDiff, ↓reduceIte, reduceCtorEq, Int.reduceToNat, Int.reduceLE, Int.reduceLT, Nat.reduceAdd, Nat.reduceMul, f0, f1, f2, f6, hlt, ff_80]) | refine qqj rfl ?_ | refine qqk rfl ?_)
    have hsp : c = c.take i ++ c[i] :: (([] : List Int) ++ c.drop (i + 1)) := by
      rw [List.nil_append, ← List.drop_eq_getElem_cons (by omega), List.take_append_drop]
    refine WK.loop (fun k s => ∃ (s1 s2 : List Int), s.n = n1 ∧ (∀ z, z ≠ y → s.H z = H z) ∧ s.H y = .cells ((s1 ++ c[i] :: (s2 ++ c.drop (i + 1))).map (Value.int .i64)) 3 true ∧ s1.length + s2.length = i ∧ s1 ++ s2 = c.take i ∧ (∀ z ∈ s2, c[i] < z) ∧ s.f 0 = .slice (some ⟨y, 0, none⟩) l.length l.length ∧ s.f 1 = .int .i64 0 ∧ s.f 2 = .int .i64 (l.length : Nat) ∧ s.f 6 = .int .i64 (i : Nat) ∧ s.f 7 = .int .i64 (s1.length : Nat) ∧ k = s1.length) i ?_ ?_
    · have hti : (c.take i).length = i := by rw [List.length_take]; omega
      refine ⟨c.take i, [], rfl, hne, by rw [← hsp]; exact hy1, by simp; omega, by simp, fun z hz => (by cases hz), f0, f1, f2, f6, ?_, hti.symm⟩
      rw [hti]; rfl
    clear f0 f1 f2 f6
    rintro k ⟨f, n2, H2⟩ ⟨s1, s2, rfl, hne2, hy2, hss, hst, hlt2, f0, f1, f2, f6, f7, rfl⟩ ih2
    simp only at f0 f1 f2 f6 f7 hne2 hy2 ih2
    have hperm : (s1 ++ c[i] :: (s2 ++ c.drop (i + 1))).Perm l := by
      refine .trans ?_ hp
      conv => rhs; rw [hsp, List.nil_append, ← hst]
      rw [List.append_assoc]
      exact (List.perm_middle (l₁ := s2) (l₂ := c.drop (i + 1)) (a := c[i])).symm.append_left s1
    generalize hxe : c[i] = x at *
    have htk : (s1 ++ x :: (s2 ++ c.drop (i + 1))).take (i + 1) = s1 ++ x :: s2 := by
      have : (s1 ++ x :: s2).length = i + 1 := by simp; omega
      have e : s1 ++ x :: (s2 ++ c.drop (i + 1)) = (s1 ++ x :: s2) ++ c.drop (i + 1) := by simp
      rw [e, List.take_append_of_le_length (by omega), List.take_of_length_le (by omega)]
    have hwi : IntKind.wrap .i64 ((i : Int) + 1) = ((i + 1 : Nat) : Int) := by rw [wrap_in (by omega) (by omega)]; rfl
    unfold le2 at hs
    rw [← hst, List.pairwise_append] at hs
    obtain ⟨p1, p2, p3⟩ := hs
    have hend : (∀ z ∈ s1, z ≤ x) → le2 (s1 ++ x :: s2) := fun h => by
      unfold le2
      rw [List.pairwise_append, List.pairwise_cons]
      exact ⟨p1, ⟨fun z hz => Int.le_of_lt (hlt2 z hz), p2⟩, fun a ha b hb => by
        rcases List.mem_cons.1 hb with rfl | hb
        · exact h a ha
        · exact p3 a ha b hb⟩
    rcases List.eq_nil_or_concat s1 with rfl | ⟨s1', z, hz⟩
    · have h00 : ((0 : Int) < ((0 : Nat) : Int)) = False := by simp
      repeat (first | apply qqa | apply qqb | apply qqc | apply qqd | apply qqe | apply qqf | apply qqg | apply qqh | refine qqi rfl ?_ | ((first | (refine WK.rgn ?_ ?_; kernel_rfl) | refine AtCall.now ?_); simp (config := { maxSteps := 1000000 }) only [SS, qg0, qgb, qgl, qgs, qgi, forall_const, tor, Go.AM.splice, one, tpick, Int.reduceEq, Int.reduceNeg, Nat.reduceGT, Nat.reduceLT, Nat.reduceLeDiff, Nat.reduceEqDiff, ↓reduceIte, reduceCtorEq, Int.reduceToNat, Int.reduceLE, Int.reduceLT, Nat.reduceAdd, Nat.reduceMul, f0, f1, f2, f6, f7, List.length_nil, h00, hwi, ff_80]) | refine qqj rfl ?_ | refine qqk rfl ?_)
      refine ih (l.length - (i + 1)) (by omega) _ ?_
      refine ⟨i + 1, _, rfl, hne2, hy2, hperm, ?_, by omega, f0, f1, f2, rfl, rfl⟩
      rw [htk]; exact hend fun z hz => (by cases hz)
    · rw [List.concat_eq_append] at hz
      subst hz
      have hlen : (s1' ++ [z]).length = s1'.length + 1 := by simp
      rw [hlen] at f7 ih2 hss
      have h01 : ((0 : Int) < ((s1'.length + 1 : Nat) : Int)) = True := eq_true (by omega)
      have hw1 : IntKind.wrap .i64 (((s1'.length + 1 : Nat) : Int) - 1) = (s1'.length : Int) := by rw [wrap_in (by omega) (by omega)]; omega
      have a1 := at_x (s1 := s1' ++ [z]) (s2 := s2 ++ c.drop (i + 1)) (x := x)
      rw [hlen] at a1
      have a2 := at_z (s1 := s1') (s2 := x :: (s2 ++ c.drop (i + 1))) (z := z)
      have b1 : s1'.length + 1 < l.length := by omega
      have b2 : s1'.length < l.length := by omega
      have hsw := swap_cells (s1 := s1') (s2 := s2) (rest := c.drop (i + 1)) (z := z) (x := x)
      repeat (first | apply qqa | apply qqb | apply qqc | apply qqd | apply qqe | apply qqf | apply qqg | apply qqh | refine qqi rfl ?_ | ((first | (refine WK.rgn ?_ ?_; kernel_rfl) | refine AtCall.now ?_); simp (config := { maxSteps := 1000000 }) only [SS, qg0, qgb, qgl, qgs, qgi, forall_const, tor, Go.AM.splice, one, tpick, Int.reduceEq, Int.reduceNeg, Nat.reduceGT, Nat.reduceLT, Nat.reduceLeDiff, Nat.reduceEqDiff, ↓reduceIte, reduceCtorEq, Int.reduceToNat, Int.reduceLE, Int.reduceLT, Nat.reduceAdd, Nat.reduceMul, f0, f1, f2, f6, f7, h01, hw1, hy2, a1, a2, b1, b2, Nat.zero_add, ff_80]) | refine qqj rfl ?_ | refine qqk rfl ?_)
      refine AtCall.by (lessI_gives _ _ _ _) ?_
      rintro v n3 H3 hk3 ⟨rfl, rfl, rfl⟩
      by_cases hxz : x < z
      · have hLC : s1'.length + 1 + 1 ≤ (((s1' ++ [z]) ++ x :: (s2 ++ c.drop (i + 1))).map (Value.int .i64)).length := by simp; omega
        have hLC2 : s1'.length + 1 ≤ ((((s1' ++ [z]) ++ x :: (s2 ++ c.drop (i + 1))).map (Value.int .i64)).set (s1'.length + 1) (.int .i64 z)).length := by simp <;> omega
        have hE1 := hset_at H3 y (.cells ((((s1' ++ [z]) ++ x :: (s2 ++ c.drop (i + 1))).map (Value.int .i64)).set (s1'.length + 1) (.int .i64 z)) 3 true)
        simp (config := { maxSteps := 1000000 }) only [SS, qg0, qgb, qgl, qgs, qgi, forall_const, tor, Go.AM.splice, one, tpick, Int.reduceEq, Int.reduceNeg, Nat.reduceGT, Nat.reduceLT, Nat.reduceLeDiff, Nat.reduceEqDiff, ↓reduceIte, reduceCtorEq, Int.reduceToNat, Int.reduceLE, Int.reduceLT, Nat.reduceAdd, Nat.reduceMul, hxz, ff_80]
        repeat (first | apply qqa | apply qqb | apply qqc | apply qqd | apply qqe | apply qqf | apply qqg | apply qqh | refine qqi rfl ?_ | ((first | (refine WK.rgn ?_ ?_; kernel_rfl) | refine AtCall.now ?_); simp (config := { maxSteps := 1000000 }) only [SS, qg0, qgb, qgl, qgs, qgi, forall_const, tor, Go.AM.splice, one, tpick, Int.reduceEq, Int.reduceNeg, Nat.reduceGT, Nat.reduceLT, Nat.reduceLeDiff, Nat.reduceEqDiff, ↓reduceIte, reduceCtorEq, Int.reduceToNat, Int.reduceLE, Int.reduceLT, Nat.reduceAdd, Nat.reduceMul, f0, f1, f2, f6, f7, hw1, hy2, a1, a2, b1, b2, Nat.zero_add, hLC, hLC2, hE1, hsw, ff_80]) | refine qqj rfl ?_ | refine qqk rfl ?_)
        refine ih2 s1'.length (by omega) _ ?_
        refine ⟨s1', z :: s2, rfl, fun q hq => (hset_ne _ _ _ hq).trans (hne2 q hq), hset_at _ _ _, by simp; omega, ?_, fun q hq => ?_, f0, f1, f2, f6, rfl, rfl⟩
        · rw [← hst]; simp
        · rcases List.mem_cons.1 hq with rfl | hq
          · exact hxz
          · exact hlt2 q hq
      · simp (config := { maxSteps := 1000000 }) only [SS, qg0, qgb, qgl, qgs, qgi, forall_const, tor, Go.AM.splice, one, tpick, Int.reduceEq, Int.reduceNeg, Nat.reduceGT, Nat.reduceLT, Nat.reduceLeDiff, Nat.reduceEqDiff, ↓reduceIte, reduceCtorEq, Int.reduceToNat, Int.reduceLE, Int.reduceLT, Nat.reduceAdd, Nat.reduceMul, hxz, ff_80]
        repeat (first | apply qqa | apply qqb | apply qqc | apply qqd | apply qqe | apply qqf | apply qqg | apply qqh | refine qqi rfl ?_ | ((first | (refine WK.rgn ?_ ?_; kernel_rfl) | refine AtCall.now ?_); simp (config := { maxSteps := 1000000 }) only [SS, qg0, qgb, qgl, qgs, qgi, forall_const, tor, Go.AM.splice, one, tpick, Int.reduceEq, Int.reduceNeg, Nat.reduceGT, Nat.reduceLT, Nat.reduceLeDiff, Nat.reduceEqDiff, ↓reduceIte, reduceCtorEq, Int.reduceToNat, Int.reduceLE, Int.reduceLT, Nat.reduceAdd, Nat.reduceMul, f0, f1, f2, f6, f7, hwi, ff_80]) | refine qqj rfl ?_ | refine qqk rfl ?_)
        refine ih (l.length - (i + 1)) (by omega) _ ?_
        refine ⟨i + 1, _, rfl, hne2, hy2, hperm, ?_, by omega, f0, f1, f2, rfl, rfl⟩
        rw [htk]
        refine hend fun a ha => ?_
        rcases List.mem_append.1 ha with h | h
        · exact Int.le_trans ((List.pairwise_append.1 p1).2.2 a h z (by simp)) (by omega)
        · simp at h; omega
  · have hie : l.length ≤ i := by omega
    repeat (first | apply qqa | apply qqb | apply qqc | apply qqd | apply qqe | apply qqf | apply qqg | apply qqh | refine qqi rfl ?_ | ((first | (refine WK.rgn ?_ ?_; kernel_rfl) | refine AtCall.now ?_); simp (config := { maxSteps := 1000000 }) only [SS, qg0, qgb, qgl, qgs, qgi, forall_const, tor, Go.AM.splice, one, tpick, Int.reduceEq, Int.reduceNeg, Nat.reduceGT, Nat.reduceLT, Nat.reduceLeDiff, Nat.reduceEqDiff, ↓reduceIte, reduceCtorEq, Int.reduceToNat, Int.reduceLE, Int.reduceLT, Nat.reduceAdd, Nat.reduceMul, f0, f1, f2, f6, hlt, ff_80]) | refine qqj rfl ?_ | refine qqk rfl ?_)
    (first | refine WK.retNil ⟨Or.inr rfl, _, rfl, ?_, ?_⟩ | refine WK.skipNil ⟨Or.inl rfl, _, rfl, ?_, ?_⟩)
    · exact fun z _ hz => hne z hz
    · simp only [packed, fset_apply, Nat.reduceEqDiff, ↓reduceIte, List.getD_cons_zero, List.getD_cons_succ, ff_80]
      refine ⟨trivial, hne, c, hy1, hp, ?_⟩
      rw [List.take_of_length_le (by omega)] at hs
      exact hs
set_option maxHeartbeats 4000000 in
theorem sort_gives {y n : Nat} {H : Heap} {l : List Int} (hy : H y = .cells (l.map (Value.int .i64)) 3 true) (hyn : y < n) (hl : l.length ≤ 12) :
    GivesX Try.prog (fun z => z = y) 51 [.slice (some ⟨y, 0, none⟩) l.length l.length] n H fun _ n' H' => n' = n ∧ (∀ z, z ≠ y → H' z = H z) ∧ ∃ l', H' y = .cells (l'.map (Value.int .i64)) 3 true ∧ l'.Perm l ∧ le2 l' := by
  refine GivesX.of orders ok51 (Nat.le_of_ble_eq_true rfl) ?_
  have hcv : IntKind.wrap .u64 (l.length : Int) = ((l.length : Nat) : Int) := by rw [wrap_u64n, Nat.mod_eq_of_lt (by omega)]
  repeat (first | apply qqa | apply qqb | apply qqc | apply qqd | apply qqe | apply qqf | apply qqg | apply qqh | refine qqi rfl ?_ | ((first | (refine WK.rgn ?_ ?_; kernel_rfl) | refine AtCall.now ?_); simp (config := { maxSteps := 1000000 }) only [SS, qg0, forall_const, tor, vconv, tlen2, Int.reduceEq, Int.reduceNeg, Nat.reduceGT, Nat.reduceLT, Nat.reduceLeDiff, Nat.reduceEqDiff, ↓reduceIte, reduceCtorEq, Int.reduceToNat, Int.reduceLE, Int.reduceLT, Nat.reduceAdd, Nat.reduceMul, hcv, ff_51]) | refine qqj rfl ?_ | refine qqk rfl ?_)
  refine AtCall.by (blen_gives l.length (by omega) _ _) ?_
  rintro v n1 H1 hk1 ⟨⟨k, rfl⟩, rfl, rfl⟩
  simp (config := { maxSteps := 1000000 }) only [SS, qg0, forall_const, tor, vconv, tlen2, Int.reduceEq, Int.reduceNeg, Nat.reduceGT, Nat.reduceLT, Nat.reduceLeDiff, Nat.reduceEqDiff, ↓reduceIte, reduceCtorEq, Int.reduceToNat, Int.reduceLE, Int.reduceLT, Nat.reduceAdd, Nat.reduceMul, ff_51]
  refine AtCall.byX (Q := fun _ n' H' => n' = n1 ∧ (∀ z, z ≠ y → H' z = H1 z) ∧ ∃ l', H' y = .cells (l'.map (Value.int .i64)) 3 true ∧ l'.Perm l ∧ le2 l') (X := fun z => z = y) ?_ ?_
  · refine GivesX.of orders ok69 (Nat.le_of_ble_eq_true rfl) ?_
    have hs0 : IntKind.wrap .i64 ((l.length : Int) - 0) = (l.length : Int) := by rw [wrap_in (by omega) (by omega)]; omega
    have h12 : ((l.length : Int) ≤ 12) = True := eq_true (by omega)
    repeat (first | apply qqa | apply qqb | apply qqc | apply qqd | apply qqe | apply qqf | apply qqg | apply qqh | refine qqi rfl ?_ | ((first | (refine WK.rgn ?_ ?_; kernel_rfl) | refine AtCall.now ?_); simp (config := { maxSteps := 1000000 }) only [SS, qg0, qgb, qgl, qgi, forall_const, tor, vun, tpick, textr, Int.reduceEq, Int.reduceNeg, Nat.reduceGT, Nat.reduceLT, Nat.reduceLeDiff, Nat.reduceEqDiff, ↓reduceIte, reduceCtorEq, Int.reduceToNat, Int.reduceLE, Int.reduceLT, Nat.reduceAdd, Nat.reduceMul, ff_69]) | refine qqj rfl ?_ | refine qqk rfl ?_)
    refine WK.unloop ?_
    repeat (first | apply qqa | apply qqb | apply qqc | apply qqd | apply qqe | apply qqf | apply qqg | apply qqh | refine qqi rfl ?_ | ((first | (refine WK.rgn ?_ ?_; kernel_rfl) | refine AtCall.now ?_); simp (config := { maxSteps := 1000000 }) only [SS, qg0, qgb, qgl, qgi, forall_const, tor, vun, tpick, textr, Int.reduceEq, Int.reduceNeg, Nat.reduceGT, Nat.reduceLT, Nat.reduceLeDiff, Nat.reduceEqDiff, ↓reduceIte, reduceCtorEq, Int.reduceToNat, Int.reduceLE, Int.reduceLT, Nat.reduceAdd, Nat.reduceMul, hs0, h12, ff_69]) | refine qqj rfl ?_ | refine qqk rfl ?_)
    refine AtCall.byX (inser_gives hy hyn (by omega)) ?_
    rintro v n2 H2 kx2 ⟨rfl, hne, hl'⟩
    simp (config := { maxSteps := 1000000 }) only [SS, qg0, qgb, qgl, qgi, forall_const, tor, vun, tpick, textr, Int.reduceEq, Int.reduceNeg, Nat.reduceGT, Nat.reduceLT, Nat.reduceLeDiff, Nat.reduceEqDiff, ↓reduceIte, reduceCtorEq, Int.reduceToNat, Int.reduceLE, Int.reduceLT, Nat.reduceAdd, Nat.reduceMul, ff_69]
    repeat (first | apply qqa | apply qqb | apply qqc | apply qqd | apply qqe | apply qqf | apply qqg | apply qqh | refine qqi rfl ?_ | ((first | (refine WK.rgn ?_ ?_; kernel_rfl) | refine AtCall.now ?_); simp (config := { maxSteps := 1000000 }) only [SS, qg0, qgb, qgl, qgi, forall_const, tor, vun, tpick, textr, Int.reduceEq, Int.reduceNeg, Nat.reduceGT, Nat.reduceLT, Nat.reduceLeDiff, Nat.reduceEqDiff, ↓reduceIte, reduceCtorEq, Int.reduceToNat, Int.reduceLE, Int.reduceLT, Nat.reduceAdd, Nat.reduceMul, ff_69]) | refine qqj rfl ?_ | refine qqk rfl ?_)
    (first | refine WK.retNil ⟨Or.inr rfl, _, rfl, ?_, ?_⟩ | refine WK.skipNil ⟨Or.inl rfl, _, rfl, ?_, ?_⟩)
    · exact kx2.keep
    · simp only [packed, fset_apply, Nat.reduceEqDiff, ↓reduceIte, List.getD_cons_zero, List.getD_cons_succ, ff_69]
      exact ⟨trivial, hne, hl'⟩
  rintro v n2 H2 kx2 ⟨rfl, hne, hl'⟩
  simp (config := { maxSteps := 1000000 }) only [SS, qg0, qgb, qgl, qgi, forall_const, tor, vun, tpick, textr, Int.reduceEq, Int.reduceNeg, Nat.reduceGT, Nat.reduceLT, Nat.reduceLeDiff, Nat.reduceEqDiff, ↓reduceIte, reduceCtorEq, Int.reduceToNat, Int.reduceLE, Int.reduceLT, Nat.reduceAdd, Nat.reduceMul, ff_69]
  repeat (first | apply qqa | apply qqb | apply qqc | apply qqd | apply qqe | apply qqf | apply qqg | apply qqh | refine qqi rfl ?_ | ((first | (refine WK.rgn ?_ ?_; kernel_rfl) | refine AtCall.now ?_); simp (config := { maxSteps := 1000000 }) only [SS, qg0, qgb, qgl, qgi, forall_const, tor, vun, tpick, textr, Int.reduceEq, Int.reduceNeg, Nat.reduceGT, Nat.reduceLT, Nat.reduceLeDiff, Nat.reduceEqDiff, ↓reduceIte, reduceCtorEq, Int.reduceToNat, Int.reduceLE, Int.reduceLT, Nat.reduceAdd, Nat.reduceMul, ff_69]) | refine qqj rfl ?_ | refine qqk rfl ?_)
  (first | refine WK.retNil ⟨Or.inr rfl, _, rfl, ?_, ?_⟩ | refine WK.skipNil ⟨Or.inl rfl, _, rfl, ?_, ?_⟩)
  · exact kx2.keep
  · simp only [packed, fset_apply, Nat.reduceEqDiff, ↓reduceIte, List.getD_cons_zero, List.getD_cons_succ, ff_69]
    exact ⟨trivial, hne, hl'⟩
theorem sort0_gives (n : Nat) (H : Heap) : Gives Try.prog 51 [.slice none 0 0] n H fun _ n' H' => n' = n ∧ H' = H := by
  refine Gives.of orders ok51 (Nat.le_of_ble_eq_true rfl) ?_
  have hcv : IntKind.wrap .u64 ((0 : Nat) : Int) = ((0 : Nat) : Int) := by rw [wrap_u64n]
  repeat (first | apply qqa | apply qqb | apply qqc | apply qqd | apply qqe | apply qqf | apply qqg | apply qqh | refine qqi rfl ?_ | ((first | (refine WK.rgn ?_ ?_; kernel_rfl) | refine AtCall.now ?_); simp (config := { maxSteps := 1000000 }) only [SS, qg0, forall_const, tor, vconv, tlen2, Int.reduceEq, Int.reduceNeg, Nat.reduceGT, Nat.reduceLT, Nat.reduceLeDiff, Nat.reduceEqDiff, ↓reduceIte, reduceCtorEq, Int.reduceToNat, Int.reduceLE, Int.reduceLT, Nat.reduceAdd, Nat.reduceMul, hcv, ff_51]) | refine qqj rfl ?_ | refine qqk rfl ?_)
  refine AtCall.by (blen_gives 0 (by omega) _ _) ?_
  rintro v n1 H1 hk1 ⟨⟨k, rfl⟩, rfl, rfl⟩
  simp (config := { maxSteps := 1000000 }) only [SS, qg0, forall_const, tor, vconv, tlen2, Int.reduceEq, Int.reduceNeg, Nat.reduceGT, Nat.reduceLT, Nat.reduceLeDiff, Nat.reduceEqDiff, ↓reduceIte, reduceCtorEq, Int.reduceToNat, Int.reduceLE, Int.reduceLT, Nat.reduceAdd, Nat.reduceMul, ff_51]
  refine AtCall.by (Q := fun _ n' H' => n' = n1 ∧ H' = H1) ?_ ?_
  · refine Gives.of orders ok69 (Nat.le_of_ble_eq_true rfl) ?_
    have hs0 : IntKind.wrap .i64 (((0 : Nat) : Int) - 0) = 0 := rfl
    have hs0' : IntKind.wrap .i64 ((0 : Int) - 0) = 0 := rfl
    repeat (first | apply qqa | apply qqb | apply qqc | apply qqd | apply qqe | apply qqf | apply qqg | apply qqh | refine qqi rfl ?_ | ((first | (refine WK.rgn ?_ ?_; kernel_rfl) | refine AtCall.now ?_); simp (config := { maxSteps := 1000000 }) only [SS, qg0, qgb, qgl, qgi, forall_const, tor, vun, tpick, textr, Int.reduceEq, Int.reduceNeg, Nat.reduceGT, Nat.reduceLT, Nat.reduceLeDiff, Nat.reduceEqDiff, ↓reduceIte, reduceCtorEq, Int.reduceToNat, Int.reduceLE, Int.reduceLT, Nat.reduceAdd, Nat.reduceMul, ff_69]) | refine qqj rfl ?_ | refine qqk rfl ?_)
    refine WK.unloop ?_
    repeat (first | apply qqa | apply qqb | apply qqc | apply qqd | apply qqe | apply qqf | apply qqg | apply qqh | refine qqi rfl ?_ | ((first | (refine WK.rgn ?_ ?_; kernel_rfl) | refine AtCall.now ?_); simp (config := { maxSteps := 1000000 }) only [SS, qg0, qgb, qgl, qgi, forall_const, tor, vun, tpick, textr, Int.reduceEq, Int.reduceNeg, Nat.reduceGT, Nat.reduceLT, Nat.reduceLeDiff, Nat.reduceEqDiff, ↓reduceIte, reduceCtorEq, Int.reduceToNat, Int.reduceLE, Int.reduceLT, Nat.reduceAdd, Nat.reduceMul, hs0, hs0', ff_69]) | refine qqj rfl ?_ | refine qqk rfl ?_)
    refine AtCall.by (Q := fun _ n' H' => n' = n1 ∧ H' = H1) ?_ ?_
    · refine Gives.of orders ok80 (Nat.le_of_ble_eq_true rfl) ?_
      have w01 : IntKind.wrap .i64 (0 + 1) = 1 := rfl
      have h10 : ((1 : Int) < ((0 : Nat) : Int)) = False := by simp
      repeat (first | apply qqa | apply qqb | apply qqc | apply qqd | apply qqe | apply qqf | apply qqg | apply qqh | refine qqi rfl ?_ | ((first | (refine WK.rgn ?_ ?_; kernel_rfl) | refine AtCall.now ?_); simp (config := { maxSteps := 1000000 }) only [SS, qg0, qgb, qgl, qgs, qgi, forall_const, tor, Go.AM.splice, one, tpick, Int.reduceEq, Int.reduceNeg, Nat.reduceGT, Nat.reduceLT, Nat.reduceLeDiff, Nat.reduceEqDiff, ↓reduceIte, reduceCtorEq, Int.reduceToNat, Int.reduceLE, Int.reduceLT, Nat.reduceAdd, Nat.reduceMul, w01, ff_80]) | refine qqj rfl ?_ | refine qqk rfl ?_)
      refine WK.unloop ?_
      repeat (first | apply qqa | apply qqb | apply qqc | apply qqd | apply qqe | apply qqf | apply qqg | apply qqh | refine qqi rfl ?_ | ((first | (refine WK.rgn ?_ ?_; kernel_rfl) | refine AtCall.now ?_); simp (config := { maxSteps := 1000000 }) only [SS, qg0, qgb, qgl, qgs, qgi, forall_const, tor, Go.AM.splice, one, tpick, Int.reduceEq, Int.reduceNeg, Nat.reduceGT, Nat.reduceLT, Nat.reduceLeDiff, Nat.reduceEqDiff, ↓reduceIte, reduceCtorEq, Int.reduceToNat, Int.reduceLE, Int.reduceLT, Nat.reduceAdd, Nat.reduceMul, h10, ff_80]) | refine qqj rfl ?_ | refine qqk rfl ?_)
      (first | refine WK.retNil ⟨Or.inr rfl, _, rfl, ?_, ?_⟩ | refine WK.skipNil ⟨Or.inl rfl, _, rfl, ?_, ?_⟩)
      · exact fun _ _ => rfl
      · simp only [packed, fset_apply, Nat.reduceEqDiff, ↓reduceIte, List.getD_cons_zero, List.getD_cons_succ, ff_80]
        exact ⟨trivial, trivial⟩
    rintro v n2 H2 kx2 ⟨rfl, rfl⟩
    simp (config := { maxSteps := 1000000 }) only [SS, qg0, qgb, qgl, qgs, qgi, forall_const, tor, Go.AM.splice, one, tpick, Int.reduceEq, Int.reduceNeg, Nat.reduceGT, Nat.reduceLT, Nat.reduceLeDiff, Nat.reduceEqDiff, ↓reduceIte, reduceCtorEq, Int.reduceToNat, Int.reduceLE, Int.reduceLT, Nat.reduceAdd, Nat.reduceMul, ff_80]
    repeat (first | apply qqa | apply qqb | apply qqc | apply qqd | apply qqe | apply qqf | apply qqg | apply qqh | refine qqi rfl ?_ | ((first | (refine WK.rgn ?_ ?_; kernel_rfl) | refine AtCall.now ?_); simp (config := { maxSteps := 1000000 }) only [SS, qg0, qgb, qgl, qgs, qgi, forall_const, tor, Go.AM.splice, one, tpick, Int.reduceEq, Int.reduceNeg, Nat.reduceGT, Nat.reduceLT, Nat.reduceLeDiff, Nat.reduceEqDiff, ↓reduceIte, reduceCtorEq, Int.reduceToNat, Int.reduceLE, Int.reduceLT, Nat.reduceAdd, Nat.reduceMul, ff_80]) | refine qqj rfl ?_ | refine qqk rfl ?_)
    (first | refine WK.retNil ⟨Or.inr rfl, _, rfl, ?_, ?_⟩ | refine WK.skipNil ⟨Or.inl rfl, _, rfl, ?_, ?_⟩)
    · exact fun _ _ => rfl
    · simp only [packed, fset_apply, Nat.reduceEqDiff, ↓reduceIte, List.getD_cons_zero, List.getD_cons_succ, ff_80]
      exact ⟨trivial, trivial⟩
  rintro v n2 H2 kx2 ⟨rfl, rfl⟩
  simp (config := { maxSteps := 1000000 }) only [SS, qg0, qgb, qgl, qgs, qgi, forall_const, tor, Go.AM.splice, one, tpick, Int.reduceEq, Int.reduceNeg, Nat.reduceGT, Nat.reduceLT, Nat.reduceLeDiff, Nat.reduceEqDiff, ↓reduceIte, reduceCtorEq, Int.reduceToNat, Int.reduceLE, Int.reduceLT, Nat.reduceAdd, Nat.reduceMul, ff_80]
  repeat (first | apply qqa | apply qqb | apply qqc | apply qqd | apply qqe | apply qqf | apply qqg | apply qqh | refine qqi rfl ?_ | ((first | (refine WK.rgn ?_ ?_; kernel_rfl) | refine AtCall.now ?_); simp (config := { maxSteps := 1000000 }) only [SS, qg0, qgb, qgl, qgs, qgi, forall_const, tor, Go.AM.splice, one, tpick, Int.reduceEq, Int.reduceNeg, Nat.reduceGT, Nat.reduceLT, Nat.reduceLeDiff, Nat.reduceEqDiff, ↓reduceIte, reduceCtorEq, Int.reduceToNat, Int.reduceLE, Int.reduceLT, Nat.reduceAdd, Nat.reduceMul, ff_80]) | refine qqj rfl ?_ | refine qqk rfl ?_)
  (first | refine WK.retNil ⟨Or.inr rfl, _, rfl, ?_, ?_⟩ | refine WK.skipNil ⟨Or.inl rfl, _, rfl, ?_, ?_⟩)
  · exact fun _ _ => rfl
  · simp only [packed, fset_apply, Nat.reduceEqDiff, ↓reduceIte, List.getD_cons_zero, List.getD_cons_succ, ff_80]
    exact ⟨trivial, trivial⟩
theorem sorted_eq : ∀ {a b : List Int}, a.Perm b → le2 a → le2 b → a = b := by
  intro a
  induction a with
  | nil => intro b h _ _; exact (List.nil_perm.1 h).symm
  | cons x a ih =>
    intro b h ha hb
    cases b with
    | nil => exact absurd h.symm (by simp)
    | cons y b =>
      have hx := List.pairwise_cons.1 ha
      have hy := List.pairwise_cons.1 hb
      have h1 : y ≤ x := by
        rcases List.mem_cons.1 (h.mem_iff.1 (List.mem_cons_self)) with e | e
        · omega
        · exact hy.1 _ e
      have h2 : x ≤ y := by
        rcases List.mem_cons.1 (h.mem_iff.2 (List.mem_cons_self)) with e | e
        · omega
        · exact hx.1 _ e
      have : x = y := by omega
      subst this
      rw [ih (List.perm_cons _ |>.1 h) hx.2 hy.2]
end Go.Proofs.Ytpdlmpbhohinpaa
