/- A part of a proof. Its conditions: none. -/
import Derived.Test.YtpdlmpbhohinpaaAmCLfRight
import Derived.Test.YtpdlmpbhohinpaaAmC
import Derived.Test.YtpdlmpbhohinpaaAmD
set_option linter.all false
namespace Go.Proofs.Ytpdlmpbhohinpaa
open Go.AM
set_option maxRecDepth 100000
def natC (u : Nat) : Value := .int .i64 (u : Nat)
def cF (cost : List Nat) (v : Nat) : Nat := cost.getD v 0
def dF (done : List Bool) (v : Nat) : Bool := done.getD v false
def priceV (cost : List Nat) (done : List Bool) (right : List Int) : Value := match priceA (cF cost) (dF done) 0 right with
  | none => .tuple #[.int .i64 0, .bool false]
  | some m => .tuple #[.int .i64 (m : Nat), .bool (decide (m < farN))]
theorem price_gives {l : Int} {right : List Int} {wt : Nat} {p : Option Addr} {xc xd n : Nat} {H : Heap} {cost : List Nat} {done : List Bool} (hw : WF n H) (hp : RA (Value.int .i64) H p right)
    (hc : H xc = .cells (cost.map natC) 3 true) (hd : H xd = .cells (done.map .bool) 4 true) (hl : right.length ≤ 1000) (hr : ∀ s ∈ right, s < cost.length) (hcd : done.length = cost.length) (hcf : ∀ k ∈ cost, k ≤ farN) :
    Gives Try.prog 63 [.agg #[.int .i64 l, .slice p right.length right.length, .float .f64 wt], .slice (some ⟨xc, 0, none⟩) cost.length cost.length, .slice (some ⟨xd, 0, none⟩) cost.length cost.length] n H fun v _ _ => v = priceV cost done right := by
  refine Gives.of orders ok63 (Nat.le_of_ble_eq_true rfl) ?_
  have hk := Kp.new n H (.cells [.int .i64 l, .slice p right.length right.length, .float .f64 wt] 55 true)
  have hb := hset_at H n (.cells [.int .i64 l, .slice p right.length right.length, .float .f64 wt] 55 true)
  replace hp := hp.mono hw hk
  replace hc := (hk.keep xc (live_lt hw (live_of hc))).trans hc
  replace hd := (hk.keep xd (live_lt hw (live_of hd))).trans hd
  repeat (first | apply qqa | apply qqb | apply qqc | apply qqd | apply qqe | apply qqf | apply qqg | apply qqh | refine qqi rfl ?_)
  (refine WK.rgn ?_ ?_; kernel_rfl; simp (config := { maxSteps := 1000000 }) only [SS, qg0, qgb, qgl, qgi, qgf, forall_const, tor, vun, tlen2, tbox, one, Int.reduceEq, Int.reduceNeg, Nat.reduceGT, Nat.reduceLT, Nat.reduceLeDiff, Nat.reduceEqDiff, ↓reduceIte, reduceCtorEq, Int.reduceToNat, Int.reduceLE, Int.reduceLT, Nat.reduceAdd, Nat.reduceMul, ff_63])
  repeat (first | apply qqa | apply qqb | apply qqc | apply qqd | apply qqe | apply qqf | apply qqg | apply qqh | refine qqi rfl ?_)
  generalize hset H n (.cells [.int .i64 l, .slice p right.length right.length, .float .f64 wt] 55 true) = H1 at *
  repeat (first | apply qqa | apply qqb | apply qqc | apply qqd | apply qqe | apply qqf | apply qqg | apply qqh | refine qqi rfl ?_ | ((first | (refine WK.rgn ?_ ?_; kernel_rfl) | refine AtCall.now ?_); simp (config := { maxSteps := 1000000 }) only [SS, qg0, qgb, qgl, qgi, qgf, forall_const, tor, vun, tlen2, tbox, one, Int.reduceEq, Int.reduceNeg, Nat.reduceGT, Nat.reduceLT, Nat.reduceLeDiff, Nat.reduceEqDiff, ↓reduceIte, reduceCtorEq, Int.reduceToNat, Int.reduceLE, Int.reduceLT, Nat.reduceAdd, Nat.reduceMul, hb, ff_63]) | refine qqj rfl ?_ | refine qqk rfl ?_)
  refine WK.loop (fun k s => ∃ j m, s.n = n + 1 ∧ s.H = H1 ∧ s.f 1 = .slice (some ⟨xc, 0, none⟩) cost.length cost.length ∧ s.f 2 = .slice (some ⟨xd, 0, none⟩) cost.length cost.length ∧ s.f 8 = .int .i64 (m : Nat) ∧ s.f 12 = .slice p right.length right.length ∧ s.f 13 = .int .i64 right.length ∧ s.f 14 = .int .i64 (j : Nat) ∧ j ≤ right.length ∧ m ≤ farN + j ∧
      priceA (cF cost) (dF done) 0 right = priceA (cF cost) (dF done) m (right.drop j) ∧ k = right.length - j) right.length ?_ ?_
  · exact ⟨0, 0, rfl, rfl, rfl, rfl, rfl, rfl, rfl, rfl, Nat.zero_le _, by omega, rfl, rfl⟩
  rintro kk ⟨f, n', H'⟩ ⟨j, m, rfl, rfl, f1, f2, f8, f12, f13, f14, hj, hm, hpr, rfl⟩ ih
  simp only at f1 f2 f8 f12 f13 f14 ih hp hc hd hk
  have hfar : farN = 1073741824 := rfl
  by_cases hjr : j < right.length
  · obtain ⟨z, kz, ds, tz, oz, rfl, hz, e⟩ := hp.at hjr
    have hlt := hr _ (List.getElem_mem hjr)
    have hjw : IntKind.i64.wrap ((j : Int) + 1) = ((j + 1 : Nat) : Int) := by rw [wrap_in (by omega) (by omega)]; rfl
    have hdrop : right.drop j = right[j] :: right.drop (j + 1) := List.drop_eq_getElem_cons hjr
    rw [hdrop] at hpr
    simp only [priceA] at hpr
    repeat (first | apply qqa | apply qqb | apply qqc | apply qqd | apply qqe | apply qqf | apply qqg | apply qqh | refine qqi rfl ?_ | ((first | (refine WK.rgn ?_ ?_; kernel_rfl) | refine AtCall.now ?_); simp (config := { maxSteps := 1000000 }) only [SS, qg0, qgb, qgl, qgi, qgf, forall_const, tor, vun, tlen2, tbox, one, Int.reduceEq, Int.reduceNeg, Nat.reduceGT, Nat.reduceLT, Nat.reduceLeDiff, Nat.reduceEqDiff, ↓reduceIte, reduceCtorEq, Int.reduceToNat, Int.reduceLE, Int.reduceLT, Nat.reduceAdd, Nat.reduceMul, f12, f13, f14, hjr, hz, e, ff_63]) | refine qqj rfl ?_ | refine qqk rfl ?_)
    refine AtCall.by (isVar_gives _ _ _) ?_
    rintro v n2 H2 hk2 ⟨rfl, rfl, rfl⟩
    by_cases h0 : 0 ≤ right[j]
    · obtain ⟨s, hs⟩ : ∃ s : Nat, right[j] = s := ⟨right[j].toNat, by omega⟩
      have hsl : s < cost.length := by omega
      have hsd : s < done.length := by omega
      have hneg : ¬ ((s : Int) < 0) := by omega
      have hgd : (done.map Value.bool)[s]? = some (.bool done[s]) := by rw [List.getElem?_map, List.getElem?_eq_getElem hsd]; rfl
      have hgc : (cost.map natC)[s]? = some (.int .i64 (cost[s] : Nat)) := by rw [List.getElem?_map, List.getElem?_eq_getElem hsl]; rfl
      have hdf : dF done s = done[s] := by simp [dF, hsd]
      have hcf' : cF cost s = cost[s] := by simp [cF, hsl]
      rw [hs, if_neg hneg, Int.toNat_natCast, hdf, hcf'] at hpr
      have hci := hcf _ (List.getElem_mem hsl)
      cases hbd : done[s]
      · rw [hbd] at hgd hpr
        simp only [Bool.false_eq_true, if_false] at hpr
        simp (config := { maxSteps := 1000000 }) only [SS, qg0, qgb, qgl, qgi, qgf, forall_const, tor, vun, tlen2, tbox, one, Int.reduceEq, Int.reduceNeg, Nat.reduceGT, Nat.reduceLT, Nat.reduceLeDiff, Nat.reduceEqDiff, ↓reduceIte, reduceCtorEq, Int.reduceToNat, Int.reduceLE, Int.reduceLT, Nat.reduceAdd, Nat.reduceMul, h0, ff_63]
        repeat (first | apply qqa | apply qqb | apply qqc | apply qqd | apply qqe | apply qqf | apply qqg | apply qqh | refine qqi rfl ?_ | ((first | (refine WK.rgn ?_ ?_; kernel_rfl) | refine AtCall.now ?_); simp (config := { maxSteps := 1000000 }) only [SS, qg0, qgb, qgl, qgi, qgf, forall_const, tor, vun, tlen2, tbox, one, Int.reduceEq, Int.reduceNeg, Nat.reduceGT, Nat.reduceLT, Nat.reduceLeDiff, Nat.reduceEqDiff, ↓reduceIte, reduceCtorEq, Int.reduceToNat, Int.reduceLE, Int.reduceLT, Nat.reduceAdd, Nat.reduceMul, f2, hs, hsl, hd, hgd, ff_63]) | refine qqj rfl ?_ | refine qqk rfl ?_)
        (first | refine WK.retNil ⟨Or.inr rfl, _, rfl, ?_, ?_⟩ | refine WK.skipNil ⟨Or.inl rfl, _, rfl, ?_, ?_⟩)
        · exact hk.keep
        · simp only [packed, fset_apply, Nat.reduceEqDiff, ↓reduceIte, List.getD_cons_zero, List.getD_cons_succ, ff_63]
          unfold priceV
          rw [hpr]
      · rw [hbd] at hgd hpr
        simp only [if_true] at hpr
        have hadd : IntKind.i64.wrap ((m : Int) + (cost[s] : Nat)) = ((m + cost[s] : Nat) : Int) := by rw [wrap_in (by omega) (by omega)]; omega
        simp (config := { maxSteps := 1000000 }) only [SS, qg0, qgb, qgl, qgi, qgf, forall_const, tor, vun, tlen2, tbox, one, Int.reduceEq, Int.reduceNeg, Nat.reduceGT, Nat.reduceLT, Nat.reduceLeDiff, Nat.reduceEqDiff, ↓reduceIte, reduceCtorEq, Int.reduceToNat, Int.reduceLE, Int.reduceLT, Nat.reduceAdd, Nat.reduceMul, h0, ff_63]
        repeat (first | apply qqa | apply qqb | apply qqc | apply qqd | apply qqe | apply qqf | apply qqg | apply qqh | refine qqi rfl ?_ | ((first | (refine WK.rgn ?_ ?_; kernel_rfl) | refine AtCall.now ?_); simp (config := { maxSteps := 1000000 }) only [SS, qg0, qgb, qgl, qgi, qgf, forall_const, tor, vun, tlen2, tbox, one, Int.reduceEq, Int.reduceNeg, Nat.reduceGT, Nat.reduceLT, Nat.reduceLeDiff, Nat.reduceEqDiff, ↓reduceIte, reduceCtorEq, Int.reduceToNat, Int.reduceLE, Int.reduceLT, Nat.reduceAdd, Nat.reduceMul, f1, f2, f8, f14, hs, hsl, hd, hgd, hc, hgc, hadd, aop_min, tmm, Bool.false_eq_true, ff_63]) | refine qqj rfl ?_ | refine qqk rfl ?_)
        refine ih (right.length - (j + 1)) (by omega) _ ⟨j + 1, min (m + cost[s]) farN, rfl, rfl, f1, f2, ?_, f12, f13, ?_, hjr, by omega, hpr, rfl⟩
        · simp only [packed, fset_apply, Nat.reduceEqDiff, ↓reduceIte, List.getD_cons_zero, List.getD_cons_succ, ff_63]
          congr 1
          rw [hfar]
          split <;> omega
        · simp only [packed, fset_apply, Nat.reduceEqDiff, ↓reduceIte, List.getD_cons_zero, List.getD_cons_succ, f14, hjw, ff_63]
    · have hneg : right[j] < 0 := by omega
      rw [if_pos hneg] at hpr
      have hadd : IntKind.i64.wrap ((m : Int) + 1) = ((m + 1 : Nat) : Int) := by rw [wrap_in (by omega) (by omega)]; omega
      simp (config := { maxSteps := 1000000 }) only [SS, qg0, qgb, qgl, qgi, qgf, forall_const, tor, vun, tlen2, tbox, one, Int.reduceEq, Int.reduceNeg, Nat.reduceGT, Nat.reduceLT, Nat.reduceLeDiff, Nat.reduceEqDiff, ↓reduceIte, reduceCtorEq, Int.reduceToNat, Int.reduceLE, Int.reduceLT, Nat.reduceAdd, Nat.reduceMul, h0, ff_63]
      repeat (first | apply qqa | apply qqb | apply qqc | apply qqd | apply qqe | apply qqf | apply qqg | apply qqh | refine qqi rfl ?_ | ((first | (refine WK.rgn ?_ ?_; kernel_rfl) | refine AtCall.now ?_); simp (config := { maxSteps := 1000000 }) only [SS, qg0, qgb, qgl, qgi, qgf, forall_const, tor, vun, tlen2, tbox, one, Int.reduceEq, Int.reduceNeg, Nat.reduceGT, Nat.reduceLT, Nat.reduceLeDiff, Nat.reduceEqDiff, ↓reduceIte, reduceCtorEq, Int.reduceToNat, Int.reduceLE, Int.reduceLT, Nat.reduceAdd, Nat.reduceMul, f8, f14, hadd, ff_63]) | refine qqj rfl ?_ | refine qqk rfl ?_)
      refine ih (right.length - (j + 1)) (by omega) _ ⟨j + 1, m + 1, rfl, rfl, f1, f2, rfl, f12, f13, ?_, hjr, by omega, hpr, rfl⟩
      simp only [packed, fset_apply, Nat.reduceEqDiff, ↓reduceIte, List.getD_cons_zero, List.getD_cons_succ, f14, hjw, ff_63]
  · have hje : j = right.length := by omega
    subst hje
    rw [List.drop_length] at hpr
    simp only [priceA] at hpr
    repeat (first | apply qqa | apply qqb | apply qqc | apply qqd | apply qqe | apply qqf | apply qqg | apply qqh | refine qqi rfl ?_ | ((first | (refine WK.rgn ?_ ?_; kernel_rfl) | refine AtCall.now ?_); simp (config := { maxSteps := 1000000 }) only [SS, qg0, qgb, qgl, qgi, qgf, forall_const, tor, vun, tlen2, tbox, one, Int.reduceEq, Int.reduceNeg, Nat.reduceGT, Nat.reduceLT, Nat.reduceLeDiff, Nat.reduceEqDiff, ↓reduceIte, reduceCtorEq, Int.reduceToNat, Int.reduceLE, Int.reduceLT, Nat.reduceAdd, Nat.reduceMul, f8, f13, f14, hjr, ff_63]) | refine qqj rfl ?_ | refine qqk rfl ?_)
    (first | refine WK.retNil ⟨Or.inr rfl, _, rfl, ?_, ?_⟩ | refine WK.skipNil ⟨Or.inl rfl, _, rfl, ?_, ?_⟩)
    · exact hk.keep
    · simp only [packed, fset_apply, Nat.reduceEqDiff, ↓reduceIte, List.getD_cons_zero, List.getD_cons_succ, f8, ff_63]
      unfold priceV
      rw [hpr]
      have : decide ((m : Int) < 1073741824) = decide (m < farN) := by rw [decide_eq_decide, hfar]; omega
      simp only [this]
end Go.Proofs.Ytpdlmpbhohinpaa
