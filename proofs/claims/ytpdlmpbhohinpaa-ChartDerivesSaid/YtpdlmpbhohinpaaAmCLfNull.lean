/- A part of a proof. Its conditions: none. -/
import Derived.Test.YtpdlmpbhohinpaaAmCLfCount
import Derived.Test.YtpdlmpbhohinpaaAmC
set_option linter.all false
namespace Go.Proofs.Ytpdlmpbhohinpaa
open Go.AM
set_option maxRecDepth 100000
theorem nul1_gives {l : Int} {right : List Int} {wt : Nat} {p : Option Addr} {y x n : Nat} {H : Heap} {hs : List Bool} (hw : WF n H) (hp : RA (Value.int .i64) H p right)
    (hy : H y = .cells [.slice (some ⟨x, 0, none⟩) hs.length hs.length] 58 true) (hx : H x = .cells (hs.map .bool) 4 true) (hl : right.length ≤ maxL) (hr : ∀ s ∈ right, s < hs.length) :
    Gives Try.prog 62 [.agg #[.int .i64 l, .slice p right.length right.length, .float .f64 wt], .pointer (some ⟨y, 0, none⟩)] n H fun v _ _ => v = .bool (nulB right hs) := by
  refine Gives.of orders ok62 (Nat.le_of_ble_eq_true rfl) ?_
  have hk := Kp.new n H (.cells [.int .i64 l, .slice p right.length right.length, .float .f64 wt] 55 true)
  have hb := hset_at H n (.cells [.int .i64 l, .slice p right.length right.length, .float .f64 wt] 55 true)
  have low : ∀ {z cs ty own}, H z = .cells cs ty own → z < n := fun {z cs ty own} e => by
    apply Classical.byContradiction
    intro hc
    rw [hw z (by omega)] at e; cases e
  replace hp := hp.mono hw hk
  replace hy := (hk.keep y (low hy)).trans hy
  replace hx := (hk.keep x (low hx)).trans hx
  repeat (first | apply qqa | apply qqb | apply qqc | apply qqd | apply qqe | apply qqf | apply qqg | apply qqh | refine qqi rfl ?_)
  (refine WK.rgn ?_ ?_; kernel_rfl; simp (config := { maxSteps := 1000000 }) only [SS, qg0, qgb, qgl, qgi, qgf, forall_const, tor, vun, tlen2, tpick, tbox, one, Int.reduceEq, Int.reduceNeg, Nat.reduceGT, Nat.reduceLT, Nat.reduceLeDiff, Nat.reduceEqDiff, ↓reduceIte, reduceCtorEq, Int.reduceToNat, Int.reduceLE, Int.reduceLT, Nat.reduceAdd, Nat.reduceMul, ff_62])
  repeat (first | apply qqa | apply qqb | apply qqc | apply qqd | apply qqe | apply qqf | apply qqg | apply qqh | refine qqi rfl ?_)
  generalize hset H n (.cells [.int .i64 l, .slice p right.length right.length, .float .f64 wt] 55 true) = H1 at *
  repeat (first | apply qqa | apply qqb | apply qqc | apply qqd | apply qqe | apply qqf | apply qqg | apply qqh | refine qqi rfl ?_ | ((first | (refine WK.rgn ?_ ?_; kernel_rfl) | refine AtCall.now ?_); simp (config := { maxSteps := 1000000 }) only [SS, qg0, qgb, qgl, qgi, qgf, forall_const, tor, vun, tlen2, tpick, tbox, one, Int.reduceEq, Int.reduceNeg, Nat.reduceGT, Nat.reduceLT, Nat.reduceLeDiff, Nat.reduceEqDiff, ↓reduceIte, reduceCtorEq, Int.reduceToNat, Int.reduceLE, Int.reduceLT, Nat.reduceAdd, Nat.reduceMul, hb, ff_62]) | refine qqj rfl ?_ | refine qqk rfl ?_)
  unfold maxL at hl
  refine WK.loop (fun k s => ∃ j, s.n = n + 1 ∧ s.H = H1 ∧ s.f 1 = .pointer (some ⟨y, 0, none⟩) ∧ s.f 7 = .slice p right.length right.length ∧ s.f 8 = .int .i64 (right.length : Nat) ∧ s.f 9 = .int .i64 (j : Nat) ∧ j ≤ right.length ∧ k = right.length - j ∧ nulB (right.take j) hs = true) right.length ?_ ?_
  · exact ⟨0, rfl, rfl, rfl, rfl, rfl, rfl, Nat.zero_le _, rfl, rfl⟩
  rintro kk ⟨f, n', H'⟩ ⟨j, rfl, rfl, f1, f7, f8, f9, hj, rfl, hn⟩ ih
  simp only at f1 f7 f8 f9 ih hb hp hx hy hk
  by_cases hjr : j < right.length
  · obtain ⟨z, kz, ds, tz, oz, rfl, hz, e⟩ := hp.at hjr
    have htj : right.take (j + 1) = right.take j ++ [right[j]] := List.take_succ_eq_append_getElem hjr
    have hlt := hr _ (List.getElem_mem hjr)
    repeat (first | apply qqa | apply qqb | apply qqc | apply qqd | apply qqe | apply qqf | apply qqg | apply qqh | refine qqi rfl ?_ | ((first | (refine WK.rgn ?_ ?_; kernel_rfl) | refine AtCall.now ?_); simp (config := { maxSteps := 1000000 }) only [SS, qg0, qgb, qgl, qgi, qgf, forall_const, tor, vun, tlen2, tpick, tbox, one, Int.reduceEq, Int.reduceNeg, Nat.reduceGT, Nat.reduceLT, Nat.reduceLeDiff, Nat.reduceEqDiff, ↓reduceIte, reduceCtorEq, Int.reduceToNat, Int.reduceLE, Int.reduceLT, Nat.reduceAdd, Nat.reduceMul, f1, f7, f8, f9, hjr, hz, e, ff_62]) | refine qqj rfl ?_ | refine qqk rfl ?_)
    refine AtCall.by (isVar_gives _ _ _) ?_
    rintro v n2 H2 hk2 ⟨rfl, rfl, rfl⟩
    by_cases h0 : 0 ≤ right[j]
    · obtain ⟨s, hs'⟩ : ∃ s : Nat, right[j] = s := ⟨right[j].toNat, by omega⟩
      have hsl : s < hs.length := by omega
      have hg : (hs.map Value.bool)[s]? = some (.bool hs[s]) := by rw [List.getElem?_map, List.getElem?_eq_getElem hsl]; rfl
      cases hb2 : hs[s]
      · rw [hb2] at hg
        simp (config := { maxSteps := 1000000 }) only [SS, qg0, qgb, qgl, qgi, qgf, forall_const, tor, vun, tlen2, tpick, tbox, one, Int.reduceEq, Int.reduceNeg, Nat.reduceGT, Nat.reduceLT, Nat.reduceLeDiff, Nat.reduceEqDiff, ↓reduceIte, reduceCtorEq, Int.reduceToNat, Int.reduceLE, Int.reduceLT, Nat.reduceAdd, Nat.reduceMul, f1, f7, f8, f9, hjr, hs', h0, hy, hx, hsl, hg, ff_62]
        repeat (first | apply qqa | apply qqb | apply qqc | apply qqd | apply qqe | apply qqf | apply qqg | apply qqh | refine qqi rfl ?_ | ((first | (refine WK.rgn ?_ ?_; kernel_rfl) | refine AtCall.now ?_); simp (config := { maxSteps := 1000000 }) only [SS, qg0, qgb, qgl, qgi, qgf, forall_const, tor, vun, tlen2, tpick, tbox, one, Int.reduceEq, Int.reduceNeg, Nat.reduceGT, Nat.reduceLT, Nat.reduceLeDiff, Nat.reduceEqDiff, ↓reduceIte, reduceCtorEq, Int.reduceToNat, Int.reduceLE, Int.reduceLT, Nat.reduceAdd, Nat.reduceMul, f1, f7, f8, f9, ff_62]) | refine qqj rfl ?_ | refine qqk rfl ?_)
        (first | refine WK.retNil ⟨Or.inr rfl, _, rfl, ?_, ?_⟩ | refine WK.skipNil ⟨Or.inl rfl, _, rfl, ?_, ?_⟩)
        · exact hk.keep
        · simp only [packed, fset_apply, Nat.reduceEqDiff, ↓reduceIte, List.getD_cons_zero, List.getD_cons_succ, ff_62]
          have : nulB right hs = false := by
            unfold nulB
            rw [List.all_eq_false]
            exact ⟨right[j], List.getElem_mem hjr, by rw [hs']; simp [hsl, hb2]⟩
          rw [this]
      · rw [hb2] at hg
        simp (config := { maxSteps := 1000000 }) only [SS, qg0, qgb, qgl, qgi, qgf, forall_const, tor, vun, tlen2, tpick, tbox, one, Int.reduceEq, Int.reduceNeg, Nat.reduceGT, Nat.reduceLT, Nat.reduceLeDiff, Nat.reduceEqDiff, ↓reduceIte, reduceCtorEq, Int.reduceToNat, Int.reduceLE, Int.reduceLT, Nat.reduceAdd, Nat.reduceMul, f1, f7, f8, f9, hjr, hs', h0, hy, hx, hsl, hg, ff_62]
        repeat (first | apply qqa | apply qqb | apply qqc | apply qqd | apply qqe | apply qqf | apply qqg | apply qqh | refine qqi rfl ?_ | ((first | (refine WK.rgn ?_ ?_; kernel_rfl) | refine AtCall.now ?_); simp (config := { maxSteps := 1000000 }) only [SS, qg0, qgb, qgl, qgi, qgf, forall_const, tor, vun, tlen2, tpick, tbox, one, Int.reduceEq, Int.reduceNeg, Nat.reduceGT, Nat.reduceLT, Nat.reduceLeDiff, Nat.reduceEqDiff, ↓reduceIte, reduceCtorEq, Int.reduceToNat, Int.reduceLE, Int.reduceLT, Nat.reduceAdd, Nat.reduceMul, f1, f7, f8, f9, ff_62]) | refine qqj rfl ?_ | refine qqk rfl ?_)
        refine ih (right.length - (j + 1)) (by omega) _ ⟨j + 1, rfl, rfl, f1, f7, f8, ?_, hjr, rfl, ?_⟩
        · simp only [packed, fset_apply, Nat.reduceEqDiff, ↓reduceIte, List.getD_cons_zero, List.getD_cons_succ, f9, ff_62]
          rw [wrap_in (by omega) (by omega)]; rfl
        · rw [htj]
          unfold nulB at hn ⊢
          rw [List.all_append, hn, hs']
          simp [hsl, hb2]
    · simp (config := { maxSteps := 1000000 }) only [SS, qg0, qgb, qgl, qgi, qgf, forall_const, tor, vun, tlen2, tpick, tbox, one, Int.reduceEq, Int.reduceNeg, Nat.reduceGT, Nat.reduceLT, Nat.reduceLeDiff, Nat.reduceEqDiff, ↓reduceIte, reduceCtorEq, Int.reduceToNat, Int.reduceLE, Int.reduceLT, Nat.reduceAdd, Nat.reduceMul, f1, f7, f8, f9, hjr, h0, ff_62]
      repeat (first | apply qqa | apply qqb | apply qqc | apply qqd | apply qqe | apply qqf | apply qqg | apply qqh | refine qqi rfl ?_ | ((first | (refine WK.rgn ?_ ?_; kernel_rfl) | refine AtCall.now ?_); simp (config := { maxSteps := 1000000 }) only [SS, qg0, qgb, qgl, qgi, qgf, forall_const, tor, vun, tlen2, tpick, tbox, one, Int.reduceEq, Int.reduceNeg, Nat.reduceGT, Nat.reduceLT, Nat.reduceLeDiff, Nat.reduceEqDiff, ↓reduceIte, reduceCtorEq, Int.reduceToNat, Int.reduceLE, Int.reduceLT, Nat.reduceAdd, Nat.reduceMul, f1, f7, f8, f9, ff_62]) | refine qqj rfl ?_ | refine qqk rfl ?_)
      (first | refine WK.retNil ⟨Or.inr rfl, _, rfl, ?_, ?_⟩ | refine WK.skipNil ⟨Or.inl rfl, _, rfl, ?_, ?_⟩)
      · exact hk.keep
      · simp only [packed, fset_apply, Nat.reduceEqDiff, ↓reduceIte, List.getD_cons_zero, List.getD_cons_succ, ff_62]
        have : nulB right hs = false := by
          unfold nulB
          rw [List.all_eq_false]
          exact ⟨right[j], List.getElem_mem hjr, by simp [h0]⟩
        rw [this]
  · repeat (first | apply qqa | apply qqb | apply qqc | apply qqd | apply qqe | apply qqf | apply qqg | apply qqh | refine qqi rfl ?_ | ((first | (refine WK.rgn ?_ ?_; kernel_rfl) | refine AtCall.now ?_); simp (config := { maxSteps := 1000000 }) only [SS, qg0, qgb, qgl, qgi, qgf, forall_const, tor, vun, tlen2, tpick, tbox, one, Int.reduceEq, Int.reduceNeg, Nat.reduceGT, Nat.reduceLT, Nat.reduceLeDiff, Nat.reduceEqDiff, ↓reduceIte, reduceCtorEq, Int.reduceToNat, Int.reduceLE, Int.reduceLT, Nat.reduceAdd, Nat.reduceMul, f1, f7, f8, f9, hjr, ff_62]) | refine qqj rfl ?_ | refine qqk rfl ?_)
    (first | refine WK.retNil ⟨Or.inr rfl, _, rfl, ?_, ?_⟩ | refine WK.skipNil ⟨Or.inl rfl, _, rfl, ?_, ?_⟩)
    · exact hk.keep
    · simp only [packed, fset_apply, Nat.reduceEqDiff, ↓reduceIte, List.getD_cons_zero, List.getD_cons_succ, ff_62]
      rw [List.take_of_length_le (by omega)] at hn
      rw [hn]
end Go.Proofs.Ytpdlmpbhohinpaa
