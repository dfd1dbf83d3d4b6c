/- A part of a proof. Its conditions: none. -/
import Derived.Test.YtpdlmpbhohinpaaAmCChPush
import Derived.Test.YtpdlmpbhohinpaaAmC
import Derived.Test.YtpdlmpbhohinpaaAmCFacts
import Derived.Test.YtpdlmpbhohinpaaAmD
import Derived.Test.YtpdlmpbhohinpaaAmB
set_option linter.all false
namespace Go.Proofs.Ytpdlmpbhohinpaa
open Go.AM Go.RowKit
set_option maxRecDepth 100000
set_option maxHeartbeats 4000000 in
theorem good1_gives {H : Heap} {n x y : Nat} {s : Int} {hs : List Bool} (hy : H y = .cells [.slice (some ⟨x, 0, none⟩) hs.length hs.length] 58 true) (hx : H x = .cells (hs.map .bool) 4 true) (hs' : s < hs.length) :
    Gives Try.prog 40 [.int .i64 s, .pointer (some ⟨y, 0, none⟩)] n H fun v _ _ => v = .bool (!(decide (s < 0) || hs.getD s.toNat false)) := by
  refine Gives.of orders ok40 (Nat.le_of_ble_eq_true rfl) ?_
  repeat (first | refine qqn rfl ?_)
  repeat (first | refine qqn rfl ?_ | ((first | (refine WK.rgn ?_ ?_; kernel_rfl) | refine AtCall.now ?_); simp (config := {maxSteps:=999999}) only [SS, qx40, forall_const, vun, simprocAttr, ff_40]) | refine qqj rfl ?_ | refine qqk rfl ?_)
  refine AtCall.by (isVar_gives _ _ _) ?_
  rintro v n2 H2 hk2 ⟨rfl, rfl, rfl⟩
  by_cases h0 : 0 ≤ s
  · obtain ⟨j, rfl⟩ := Int.eq_ofNat_of_zero_le h0
    have hj : j < hs.length := by omega
    have hg : (hs.map Value.bool)[j]? = some (.bool hs[j]) := by rw [List.getElem?_map, List.getElem?_eq_getElem hj]; rfl
    simp (config := {maxSteps:=999999}) only [SS, qx40, forall_const, vun, simprocAttr, hy, hx, h0, hj, hg, ff_40]
    repeat (first | refine qqn rfl ?_ | ((first | (refine WK.rgn ?_ ?_; kernel_rfl) | refine AtCall.now ?_); simp (config := {maxSteps:=999999}) only [SS, qx40, forall_const, vun, simprocAttr, ff_40]) | refine qqj rfl ?_ | refine qqk rfl ?_)
    (first | refine WK.retNil ⟨Or.inr rfl, _, rfl, ?_, ?_⟩ | refine WK.skipNil ⟨Or.inl rfl, _, rfl, ?_, ?_⟩)
    · exact fun _ _ => rfl
    · simp only [packed, fset_apply, Nat.reduceEqDiff, ↓reduceIte, List.getD_cons_zero, List.getD_cons_succ, ff_40]
      have : ¬ ((j : Int) < 0) := by omega
      simp [this, hj]
  · simp (config := {maxSteps:=999999}) only [SS, qx40, forall_const, vun, simprocAttr, h0, ff_40]
    repeat (first | refine qqn rfl ?_ | ((first | (refine WK.rgn ?_ ?_; kernel_rfl) | refine AtCall.now ?_); simp (config := {maxSteps:=999999}) only [SS, qx40, forall_const, vun, simprocAttr, ff_40]) | refine qqj rfl ?_ | refine qqk rfl ?_)
    (first | refine WK.retNil ⟨Or.inr rfl, _, rfl, ?_, ?_⟩ | refine WK.skipNil ⟨Or.inl rfl, _, rfl, ?_, ?_⟩)
    · exact fun _ _ => rfl
    · simp only [packed, fset_apply, Nat.reduceEqDiff, ↓reduceIte, List.getD_cons_zero, List.getD_cons_succ, ff_40]
      have : s < 0 := by omega
      simp [this]
set_option maxHeartbeats 4000000 in
theorem index_gives {F n : Nat} {H : Heap} {captured : List Value} {p : Int → Bool} {l : List Int} {a : Option Addr} (hl : l.length ≤ maxL) (hw : WF n H) (ha : RA (Value.int .i64) H a l)
    (hp : ∀ s ∈ l, ∀ n1 H1, Kp n H n1 H1 → Gives Try.prog F (.int .i64 s :: captured) n1 H1 fun v _ _ => v = .bool (p s)) :
    Gives Try.prog 65 [.slice a l.length l.length, .func (.func F) #[] captured.toArray] n H fun v _ _ => ∃ i : Int, v = .int .i64 i ∧ (0 ≤ i ↔ l.any p = true) := by
  refine Gives.of orders ok65 (Nat.le_of_ble_eq_true rfl) ?_
  unfold maxL at hl
  repeat (first | refine qqn rfl ?_)
  repeat (first | refine qqn rfl ?_ | ((first | (refine WK.rgn ?_ ?_; kernel_rfl) | refine AtCall.now ?_); simp (config := {maxSteps:=999999}) only [SS, qx10, forall_const, simprocAttr, ff_65]) | refine qqj rfl ?_ | refine qqk rfl ?_)
  refine WK.loop (fun k s => ∃ j : Nat, Kp n H s.n s.H ∧ s.f 0 = .slice a l.length l.length ∧ s.f 1 = .func (.func F) #[] captured.toArray ∧ s.f 7 = .int .i64 (l.length : Nat) ∧ s.f 8 = .int .i64 (j : Nat) ∧ j ≤ l.length ∧ (l.take j).any p = false ∧ k = l.length - j) l.length ?_ ?_
  · exact ⟨0, .refl n H, rfl, rfl, rfl, rfl, Nat.zero_le _, rfl, rfl⟩
  rintro kk ⟨f, n1, H1⟩ ⟨j, hk, f0, f1, f7, f8, hj, hn, rfl⟩ ih
  simp only at f0 f1 f7 f8 hk ih
  by_cases hlt : j < l.length
  · obtain ⟨z, kz, ds, tz, oz, rfl, hz, e⟩ := (ha.mono hw hk).at hlt
    have htj : l.take (j + 1) = l.take j ++ [l[j]] := List.take_succ_eq_append_getElem hlt
    repeat (first | refine qqn rfl ?_ | ((first | (refine WK.rgn ?_ ?_; kernel_rfl) | refine AtCall.now ?_); simp (config := {maxSteps:=999999}) only [SS, qx10, forall_const, simprocAttr, f0, f1, f7, f8, hlt, hz, e, ff_65]) | refine qqj rfl ?_ | refine qqk rfl ?_)
    refine AtCall.by (hp _ (List.getElem_mem hlt) n1 H1 hk) ?_
    rintro v n2 H2 hk2 rfl
    cases hb : p l[j] with
    | true =>
      simp (config := {maxSteps:=999999}) only [SS, qx10, forall_const, simprocAttr, ff_65]
      repeat (first | refine qqn rfl ?_ | ((first | (refine WK.rgn ?_ ?_; kernel_rfl) | refine AtCall.now ?_); simp (config := {maxSteps:=999999}) only [SS, qx10, forall_const, simprocAttr, ff_65]) | refine qqj rfl ?_ | refine qqk rfl ?_)
      (first | refine WK.retNil ⟨Or.inr rfl, _, rfl, ?_, ?_⟩ | refine WK.skipNil ⟨Or.inl rfl, _, rfl, ?_, ?_⟩)
      · exact (hk.trans hk2).keep
      · simp only [packed, fset_apply, Nat.reduceEqDiff, ↓reduceIte, List.getD_cons_zero, List.getD_cons_succ, ff_65]
        exact ⟨_, rfl, fun _ => List.any_eq_true.2 ⟨_, List.getElem_mem hlt, hb⟩, fun _ => by omega⟩
    | false =>
      simp (config := {maxSteps:=999999}) only [SS, qx10, forall_const, simprocAttr, ff_65]
      repeat (first | refine qqn rfl ?_ | ((first | (refine WK.rgn ?_ ?_; kernel_rfl) | refine AtCall.now ?_); simp (config := {maxSteps:=999999}) only [SS, qx10, forall_const, simprocAttr, f8, ff_65]) | refine qqj rfl ?_ | refine qqk rfl ?_)
      refine ih (l.length - (j + 1)) (by omega) _ ⟨j + 1, hk.trans hk2, f0, f1, f7, ?_, hlt, ?_, rfl⟩
      · simp only [packed, fset_apply, Nat.reduceEqDiff, ↓reduceIte, List.getD_cons_zero, List.getD_cons_succ, f8, ff_65]
        rw [wrap_in (by omega) (by omega)]; rfl
      · rw [htj, List.any_append, hn]; simp [hb]
  · repeat (first | refine qqn rfl ?_ | ((first | (refine WK.rgn ?_ ?_; kernel_rfl) | refine AtCall.now ?_); simp (config := {maxSteps:=999999}) only [SS, qx10, forall_const, simprocAttr, f0, f1, f7, f8, hlt, ff_65]) | refine qqj rfl ?_ | refine qqk rfl ?_)
    (first | refine WK.retNil ⟨Or.inr rfl, _, rfl, ?_, ?_⟩ | refine WK.skipNil ⟨Or.inl rfl, _, rfl, ?_, ?_⟩)
    · exact hk.keep
    · simp only [packed, fset_apply, Nat.reduceEqDiff, ↓reduceIte, List.getD_cons_zero, List.getD_cons_succ, ff_65]
      rw [List.take_of_length_le (by omega)] at hn
      exact ⟨-1, rfl, fun h => absurd h (by omega), fun h => by rw [hn] at h; cases h⟩
set_option maxHeartbeats 4000000 in
theorem contains_gives {F n : Nat} {H : Heap} {captured : List Value} {p : Int → Bool} {l : List Int} {a : Option Addr} (hl : l.length ≤ maxL) (hw : WF n H) (ha : RA (Value.int .i64) H a l)
    (hp : ∀ s ∈ l, ∀ n1 H1, Kp n H n1 H1 → Gives Try.prog F (.int .i64 s :: captured) n1 H1 fun v _ _ => v = .bool (p s)) :
    Gives Try.prog 39 [.slice a l.length l.length, .func (.func F) #[] captured.toArray] n H fun v _ _ => v = .bool (l.any p) := by
  refine Gives.of orders ok39 (Nat.le_of_ble_eq_true rfl) ?_
  repeat (first | refine qqn rfl ?_)
  repeat (first | refine qqn rfl ?_ | ((first | (refine WK.rgn ?_ ?_; kernel_rfl) | refine AtCall.now ?_); simp (config := {maxSteps:=999999}) only [SS, qx21, forall_const, simprocAttr]) | refine qqj rfl ?_ | refine qqk rfl ?_)
  refine AtCall.by (index_gives hl hw ha hp) ?_
  rintro v n2 H2 hk2 ⟨i, rfl, hi⟩
  simp (config := {maxSteps:=999999}) only [SS, qx21, forall_const, simprocAttr]
  repeat (first | refine qqn rfl ?_ | ((first | (refine WK.rgn ?_ ?_; kernel_rfl) | refine AtCall.now ?_); simp (config := {maxSteps:=999999}) only [SS, qx21, forall_const, simprocAttr]) | refine qqj rfl ?_ | refine qqk rfl ?_)
  (first | refine WK.retNil ⟨Or.inr rfl, _, rfl, ?_, ?_⟩ | refine WK.skipNil ⟨Or.inl rfl, _, rfl, ?_, ?_⟩)
  · exact hk2.keep
  · simp only [packed, fset_apply, Nat.reduceEqDiff, ↓reduceIte, List.getD_cons_zero, List.getD_cons_succ]
    cases hb : l.any p with
    | true => rw [hb] at hi; simp [hi.2 rfl]
    | false => rw [hb] at hi; simp at hi; simp; omega
end Go.Proofs.Ytpdlmpbhohinpaa

namespace Go.Proofs.Ytpdlmpbhohinpaa
open Go.AM
set_option maxRecDepth 100000
theorem ext_bits (b : Nat) : aext Try.prog 104 [.float .f64 b] = some (.int .u64 b) := by
  have h : (match Try.prog.funcs[104]? with | some fn => fn.body.isNone && fn.origin == "" && (fn.name == "math.Float64bits" || fn.name == "internal/strconv.float64bits") | none => false) = true := by kernel_rfl
  unfold aext
  split at h
  · rename_i fn hf
    simp only [Bool.and_eq_true] at h
    simp [hf, h]
  · cases h
theorem min52 : min 52 IntKind.u64.bits = 52 := rfl
theorem min12 : min 12 IntKind.u64.bits = 12 := rfl
theorem min63 : min 63 IntKind.u64.bits = 63 := rfl
def expB (b : Nat) : Int := IntKind.u64.wrap (BitVec.ofInt IntKind.u64.bits ((b : Int).fdiv (2 ^ 52)) &&& BitVec.ofInt IntKind.u64.bits 2047).toNat
def nanB (b : Nat) : Bool := decide (expB b = 2047) && !decide (IntKind.u64.wrap ((b : Int) * 2 ^ 12) = 0)
theorem nan_gives (b : Nat) (n : Nat) (H : Heap) : Gives Try.prog 94 [.float .f64 b] n H fun v n' H' => v = .bool (nanB b) ∧ n' = n ∧ H' = H := by
  refine Gives.of orders ok94 (Nat.le_of_ble_eq_true rfl) ?_
  have e : IntKind.u64.wrap (BitVec.ofInt IntKind.u64.bits ((b : Int).fdiv (2 ^ 52)) &&& BitVec.ofInt IntKind.u64.bits 2047).toNat = expB b := rfl
  by_cases h1 : expB b = 2047
  · repeat (first | refine qqn rfl ?_ | ((first | (refine WK.rgn ?_ ?_; kernel_rfl) | refine AtCall.now ?_); simp (config := {maxSteps:=999999}) only [SS, qx2, forall_const, Int.reduceEq, Int.reduceNeg, Nat.reduceGT, Nat.reduceLT, Nat.reduceLeDiff, Nat.reduceEqDiff, ↓reduceIte, reduceCtorEq, Int.reduceToNat, Int.reduceLE, Int.reduceLT, Nat.reduceAdd, Nat.reduceMul, ext_bits, e, h1, min52, min12, ff_94]) | refine qqj rfl ?_ | refine qqk rfl ?_)
    (first | refine WK.retNil ⟨Or.inr rfl, _, rfl, ?_, ?_⟩ | refine WK.skipNil ⟨Or.inl rfl, _, rfl, ?_, ?_⟩)
    · exact fun _ _ => rfl
    · simp only [packed, fset_apply, Nat.reduceEqDiff, ↓reduceIte, List.getD_cons_zero, List.getD_cons_succ, nanB, h1, ff_94]
      simp
  · repeat (first | refine qqn rfl ?_ | ((first | (refine WK.rgn ?_ ?_; kernel_rfl) | refine AtCall.now ?_); simp (config := {maxSteps:=999999}) only [SS, qx2, forall_const, Int.reduceEq, Int.reduceNeg, Nat.reduceGT, Nat.reduceLT, Nat.reduceLeDiff, Nat.reduceEqDiff, ↓reduceIte, reduceCtorEq, Int.reduceToNat, Int.reduceLE, Int.reduceLT, Nat.reduceAdd, Nat.reduceMul, ext_bits, e, h1, min52, min12, ff_94]) | refine qqj rfl ?_ | refine qqk rfl ?_)
    (first | refine WK.retNil ⟨Or.inr rfl, _, rfl, ?_, ?_⟩ | refine WK.skipNil ⟨Or.inl rfl, _, rfl, ?_, ?_⟩)
    · exact fun _ _ => rfl
    · simp only [packed, fset_apply, Nat.reduceEqDiff, ↓reduceIte, List.getD_cons_zero, List.getD_cons_succ, nanB, h1, ff_94]
      simp
def belowB (b : Nat) : Bool := decide ((b : Int).fdiv (2 ^ 63) = 1)
theorem below_gives (b : Nat) (n : Nat) (H : Heap) : Gives Try.prog 107 [.float .f64 b] n H fun v n' H' => v = .bool (belowB b) ∧ n' = n ∧ H' = H := by
  refine Gives.of orders ok107 (Nat.le_of_ble_eq_true rfl) ?_
  repeat (first | refine qqn rfl ?_ | ((first | (refine WK.rgn ?_ ?_; kernel_rfl) | refine AtCall.now ?_); simp (config := {maxSteps:=999999}) only [SS, qx21, forall_const, Int.reduceEq, Int.reduceNeg, Nat.reduceGT, Nat.reduceLT, Nat.reduceLeDiff, Nat.reduceEqDiff, ↓reduceIte, reduceCtorEq, Int.reduceToNat, Int.reduceLE, Int.reduceLT, Nat.reduceAdd, Nat.reduceMul, ext_bits, min63, ff_107]) | refine qqj rfl ?_ | refine qqk rfl ?_)
  (first | refine WK.retNil ⟨Or.inr rfl, _, rfl, ?_, ?_⟩ | refine WK.skipNil ⟨Or.inl rfl, _, rfl, ?_, ?_⟩)
  · exact fun _ _ => rfl
  · simp only [packed, fset_apply, Nat.reduceEqDiff, ↓reduceIte, List.getD_cons_zero, List.getD_cons_succ, belowB, ff_107]
    simp
def lessB (a b : Nat) : Bool :=
  if nanB a || nanB b then !nanB a && nanB b
  else if belowB a != belowB b then belowB a
  else if belowB a then decide (b < a) else decide (a < b)
theorem lessB_gives (a b : Nat) (n : Nat) (H : Heap) : Gives Try.prog 105 [.float .f64 a, .float .f64 b] n H fun v n' H' => v = .bool (lessB a b) ∧ n' = n ∧ H' = H := by
  refine Gives.of orders ok105 (Nat.le_of_ble_eq_true rfl) ?_
  repeat (first | refine qqn rfl ?_ | ((first | (refine WK.rgn ?_ ?_; kernel_rfl) | refine AtCall.now ?_); simp (config := {maxSteps:=999999}) only [SS, qx2, forall_const, vun, Int.reduceEq, Int.reduceNeg, Nat.reduceGT, Nat.reduceLT, Nat.reduceLeDiff, Nat.reduceEqDiff, ↓reduceIte, reduceCtorEq, Int.reduceToNat, Int.reduceLE, Int.reduceLT, Nat.reduceAdd, Nat.reduceMul, ff_105]) | refine qqj rfl ?_ | refine qqk rfl ?_)
  refine AtCall.by (nan_gives a n H) ?_
  rintro v n' H' hk ⟨rfl, rfl, rfl⟩
  cases h1 : nanB a
  · simp (config := {maxSteps:=999999}) only [SS, qx2, forall_const, vun, Int.reduceEq, Int.reduceNeg, Nat.reduceGT, Nat.reduceLT, Nat.reduceLeDiff, Nat.reduceEqDiff, ↓reduceIte, reduceCtorEq, Int.reduceToNat, Int.reduceLE, Int.reduceLT, Nat.reduceAdd, Nat.reduceMul, ff_105]
    refine AtCall.by (nan_gives b _ _) ?_
    rintro v n' H' hk ⟨rfl, rfl, rfl⟩
    cases h2 : nanB b
    · simp (config := {maxSteps:=999999}) only [SS, qx2, forall_const, vun, Int.reduceEq, Int.reduceNeg, Nat.reduceGT, Nat.reduceLT, Nat.reduceLeDiff, Nat.reduceEqDiff, ↓reduceIte, reduceCtorEq, Int.reduceToNat, Int.reduceLE, Int.reduceLT, Nat.reduceAdd, Nat.reduceMul, ff_105]
      repeat (first | refine qqn rfl ?_ | ((first | (refine WK.rgn ?_ ?_; kernel_rfl) | refine AtCall.now ?_); simp (config := {maxSteps:=999999}) only [SS, qx2, forall_const, vun, Int.reduceEq, Int.reduceNeg, Nat.reduceGT, Nat.reduceLT, Nat.reduceLeDiff, Nat.reduceEqDiff, ↓reduceIte, reduceCtorEq, Int.reduceToNat, Int.reduceLE, Int.reduceLT, Nat.reduceAdd, Nat.reduceMul, ff_105]) | refine qqj rfl ?_ | refine qqk rfl ?_)
      refine AtCall.by (below_gives a _ _) ?_
      rintro v n' H' hk ⟨rfl, rfl, rfl⟩
      simp (config := {maxSteps:=999999}) only [SS, qx2, forall_const, vun, Int.reduceEq, Int.reduceNeg, Nat.reduceGT, Nat.reduceLT, Nat.reduceLeDiff, Nat.reduceEqDiff, ↓reduceIte, reduceCtorEq, Int.reduceToNat, Int.reduceLE, Int.reduceLT, Nat.reduceAdd, Nat.reduceMul, ff_105]
      refine AtCall.by (below_gives b _ _) ?_
      rintro v n' H' hk ⟨rfl, rfl, rfl⟩
      cases h3 : belowB a <;> cases h4 : belowB b
      · simp (config := {maxSteps:=999999}) only [SS, qx2, forall_const, vun, Int.reduceEq, Int.reduceNeg, Nat.reduceGT, Nat.reduceLT, Nat.reduceLeDiff, Nat.reduceEqDiff, ↓reduceIte, reduceCtorEq, Int.reduceToNat, Int.reduceLE, Int.reduceLT, Nat.reduceAdd, Nat.reduceMul, ff_105]
        repeat (first | refine qqn rfl ?_ | ((first | (refine WK.rgn ?_ ?_; kernel_rfl) | refine AtCall.now ?_); simp (config := {maxSteps:=999999}) only [SS, qx2, forall_const, vun, Int.reduceEq, Int.reduceNeg, Nat.reduceGT, Nat.reduceLT, Nat.reduceLeDiff, Nat.reduceEqDiff, ↓reduceIte, reduceCtorEq, Int.reduceToNat, Int.reduceLE, Int.reduceLT, Nat.reduceAdd, Nat.reduceMul, ff_105]) | refine qqj rfl ?_ | refine qqk rfl ?_)
        refine AtCall.by (below_gives a _ _) ?_
        rintro v n' H' hk ⟨rfl, rfl, rfl⟩
        simp (config := {maxSteps:=999999}) only [SS, qx2, forall_const, vun, Int.reduceEq, Int.reduceNeg, Nat.reduceGT, Nat.reduceLT, Nat.reduceLeDiff, Nat.reduceEqDiff, ↓reduceIte, reduceCtorEq, Int.reduceToNat, Int.reduceLE, Int.reduceLT, Nat.reduceAdd, Nat.reduceMul, h3, ff_105]
        repeat (first | refine qqn rfl ?_ | ((first | (refine WK.rgn ?_ ?_; kernel_rfl) | refine AtCall.now ?_); simp (config := {maxSteps:=999999}) only [SS, qx2, forall_const, vun, Int.reduceEq, Int.reduceNeg, Nat.reduceGT, Nat.reduceLT, Nat.reduceLeDiff, Nat.reduceEqDiff, ↓reduceIte, reduceCtorEq, Int.reduceToNat, Int.reduceLE, Int.reduceLT, Nat.reduceAdd, Nat.reduceMul, h3, ext_bits, ff_105]) | refine qqj rfl ?_ | refine qqk rfl ?_)
        (first | refine WK.retNil ⟨Or.inr rfl, _, rfl, ?_, ?_⟩ | refine WK.skipNil ⟨Or.inl rfl, _, rfl, ?_, ?_⟩)
        · exact fun _ _ => rfl
        · simp only [packed, fset_apply, Nat.reduceEqDiff, ↓reduceIte, List.getD_cons_zero, List.getD_cons_succ, lessB, h1, h2, h3, h4, ff_105]
          simp
      · simp (config := {maxSteps:=999999}) only [SS, qx2, forall_const, vun, Int.reduceEq, Int.reduceNeg, Nat.reduceGT, Nat.reduceLT, Nat.reduceLeDiff, Nat.reduceEqDiff, ↓reduceIte, reduceCtorEq, Int.reduceToNat, Int.reduceLE, Int.reduceLT, Nat.reduceAdd, Nat.reduceMul, ff_105]
        repeat (first | refine qqn rfl ?_ | ((first | (refine WK.rgn ?_ ?_; kernel_rfl) | refine AtCall.now ?_); simp (config := {maxSteps:=999999}) only [SS, qx2, forall_const, vun, Int.reduceEq, Int.reduceNeg, Nat.reduceGT, Nat.reduceLT, Nat.reduceLeDiff, Nat.reduceEqDiff, ↓reduceIte, reduceCtorEq, Int.reduceToNat, Int.reduceLE, Int.reduceLT, Nat.reduceAdd, Nat.reduceMul, ff_105]) | refine qqj rfl ?_ | refine qqk rfl ?_)
        refine AtCall.by (below_gives a _ _) ?_
        rintro v n' H' hk ⟨rfl, rfl, rfl⟩
        simp (config := {maxSteps:=999999}) only [SS, qx2, forall_const, vun, Int.reduceEq, Int.reduceNeg, Nat.reduceGT, Nat.reduceLT, Nat.reduceLeDiff, Nat.reduceEqDiff, ↓reduceIte, reduceCtorEq, Int.reduceToNat, Int.reduceLE, Int.reduceLT, Nat.reduceAdd, Nat.reduceMul, h3, ff_105]
        repeat (first | refine qqn rfl ?_ | ((first | (refine WK.rgn ?_ ?_; kernel_rfl) | refine AtCall.now ?_); simp (config := {maxSteps:=999999}) only [SS, qx2, forall_const, vun, Int.reduceEq, Int.reduceNeg, Nat.reduceGT, Nat.reduceLT, Nat.reduceLeDiff, Nat.reduceEqDiff, ↓reduceIte, reduceCtorEq, Int.reduceToNat, Int.reduceLE, Int.reduceLT, Nat.reduceAdd, Nat.reduceMul, h3, ff_105]) | refine qqj rfl ?_ | refine qqk rfl ?_)
        (first | refine WK.retNil ⟨Or.inr rfl, _, rfl, ?_, ?_⟩ | refine WK.skipNil ⟨Or.inl rfl, _, rfl, ?_, ?_⟩)
        · exact fun _ _ => rfl
        · simp only [packed, fset_apply, Nat.reduceEqDiff, ↓reduceIte, List.getD_cons_zero, List.getD_cons_succ, lessB, h1, h2, h3, h4, ff_105]
          simp
      · simp (config := {maxSteps:=999999}) only [SS, qx2, forall_const, vun, Int.reduceEq, Int.reduceNeg, Nat.reduceGT, Nat.reduceLT, Nat.reduceLeDiff, Nat.reduceEqDiff, ↓reduceIte, reduceCtorEq, Int.reduceToNat, Int.reduceLE, Int.reduceLT, Nat.reduceAdd, Nat.reduceMul, ff_105]
        repeat (first | refine qqn rfl ?_ | ((first | (refine WK.rgn ?_ ?_; kernel_rfl) | refine AtCall.now ?_); simp (config := {maxSteps:=999999}) only [SS, qx2, forall_const, vun, Int.reduceEq, Int.reduceNeg, Nat.reduceGT, Nat.reduceLT, Nat.reduceLeDiff, Nat.reduceEqDiff, ↓reduceIte, reduceCtorEq, Int.reduceToNat, Int.reduceLE, Int.reduceLT, Nat.reduceAdd, Nat.reduceMul, ff_105]) | refine qqj rfl ?_ | refine qqk rfl ?_)
        refine AtCall.by (below_gives a _ _) ?_
        rintro v n' H' hk ⟨rfl, rfl, rfl⟩
        simp (config := {maxSteps:=999999}) only [SS, qx2, forall_const, vun, Int.reduceEq, Int.reduceNeg, Nat.reduceGT, Nat.reduceLT, Nat.reduceLeDiff, Nat.reduceEqDiff, ↓reduceIte, reduceCtorEq, Int.reduceToNat, Int.reduceLE, Int.reduceLT, Nat.reduceAdd, Nat.reduceMul, h3, ff_105]
        repeat (first | refine qqn rfl ?_ | ((first | (refine WK.rgn ?_ ?_; kernel_rfl) | refine AtCall.now ?_); simp (config := {maxSteps:=999999}) only [SS, qx2, forall_const, vun, Int.reduceEq, Int.reduceNeg, Nat.reduceGT, Nat.reduceLT, Nat.reduceLeDiff, Nat.reduceEqDiff, ↓reduceIte, reduceCtorEq, Int.reduceToNat, Int.reduceLE, Int.reduceLT, Nat.reduceAdd, Nat.reduceMul, h3, ff_105]) | refine qqj rfl ?_ | refine qqk rfl ?_)
        (first | refine WK.retNil ⟨Or.inr rfl, _, rfl, ?_, ?_⟩ | refine WK.skipNil ⟨Or.inl rfl, _, rfl, ?_, ?_⟩)
        · exact fun _ _ => rfl
        · simp only [packed, fset_apply, Nat.reduceEqDiff, ↓reduceIte, List.getD_cons_zero, List.getD_cons_succ, lessB, h1, h2, h3, h4, ff_105]
          simp
      · simp (config := {maxSteps:=999999}) only [SS, qx2, forall_const, vun, Int.reduceEq, Int.reduceNeg, Nat.reduceGT, Nat.reduceLT, Nat.reduceLeDiff, Nat.reduceEqDiff, ↓reduceIte, reduceCtorEq, Int.reduceToNat, Int.reduceLE, Int.reduceLT, Nat.reduceAdd, Nat.reduceMul, ff_105]
        repeat (first | refine qqn rfl ?_ | ((first | (refine WK.rgn ?_ ?_; kernel_rfl) | refine AtCall.now ?_); simp (config := {maxSteps:=999999}) only [SS, qx2, forall_const, vun, Int.reduceEq, Int.reduceNeg, Nat.reduceGT, Nat.reduceLT, Nat.reduceLeDiff, Nat.reduceEqDiff, ↓reduceIte, reduceCtorEq, Int.reduceToNat, Int.reduceLE, Int.reduceLT, Nat.reduceAdd, Nat.reduceMul, ff_105]) | refine qqj rfl ?_ | refine qqk rfl ?_)
        refine AtCall.by (below_gives a _ _) ?_
        rintro v n' H' hk ⟨rfl, rfl, rfl⟩
        simp (config := {maxSteps:=999999}) only [SS, qx2, forall_const, vun, Int.reduceEq, Int.reduceNeg, Nat.reduceGT, Nat.reduceLT, Nat.reduceLeDiff, Nat.reduceEqDiff, ↓reduceIte, reduceCtorEq, Int.reduceToNat, Int.reduceLE, Int.reduceLT, Nat.reduceAdd, Nat.reduceMul, h3, ff_105]
        repeat (first | refine qqn rfl ?_ | ((first | (refine WK.rgn ?_ ?_; kernel_rfl) | refine AtCall.now ?_); simp (config := {maxSteps:=999999}) only [SS, qx2, forall_const, vun, Int.reduceEq, Int.reduceNeg, Nat.reduceGT, Nat.reduceLT, Nat.reduceLeDiff, Nat.reduceEqDiff, ↓reduceIte, reduceCtorEq, Int.reduceToNat, Int.reduceLE, Int.reduceLT, Nat.reduceAdd, Nat.reduceMul, h3, ext_bits, ff_105]) | refine qqj rfl ?_ | refine qqk rfl ?_)
        (first | refine WK.retNil ⟨Or.inr rfl, _, rfl, ?_, ?_⟩ | refine WK.skipNil ⟨Or.inl rfl, _, rfl, ?_, ?_⟩)
        · exact fun _ _ => rfl
        · simp only [packed, fset_apply, Nat.reduceEqDiff, ↓reduceIte, List.getD_cons_zero, List.getD_cons_succ, lessB, h1, h2, h3, h4, ff_105]
          simp
    · simp (config := {maxSteps:=999999}) only [SS, qx2, forall_const, vun, Int.reduceEq, Int.reduceNeg, Nat.reduceGT, Nat.reduceLT, Nat.reduceLeDiff, Nat.reduceEqDiff, ↓reduceIte, reduceCtorEq, Int.reduceToNat, Int.reduceLE, Int.reduceLT, Nat.reduceAdd, Nat.reduceMul, ff_105]
      repeat (first | refine qqn rfl ?_ | ((first | (refine WK.rgn ?_ ?_; kernel_rfl) | refine AtCall.now ?_); simp (config := {maxSteps:=999999}) only [SS, qx2, forall_const, vun, Int.reduceEq, Int.reduceNeg, Nat.reduceGT, Nat.reduceLT, Nat.reduceLeDiff, Nat.reduceEqDiff, ↓reduceIte, reduceCtorEq, Int.reduceToNat, Int.reduceLE, Int.reduceLT, Nat.reduceAdd, Nat.reduceMul, ff_105]) | refine qqj rfl ?_ | refine qqk rfl ?_)
      refine AtCall.by (nan_gives a _ _) ?_
      rintro v n' H' hk ⟨rfl, rfl, rfl⟩
      simp (config := {maxSteps:=999999}) only [SS, qx2, forall_const, vun, Int.reduceEq, Int.reduceNeg, Nat.reduceGT, Nat.reduceLT, Nat.reduceLeDiff, Nat.reduceEqDiff, ↓reduceIte, reduceCtorEq, Int.reduceToNat, Int.reduceLE, Int.reduceLT, Nat.reduceAdd, Nat.reduceMul, h1, ff_105]
      refine AtCall.by (nan_gives b _ _) ?_
      rintro v n' H' hk ⟨rfl, rfl, rfl⟩
      simp (config := {maxSteps:=999999}) only [SS, qx2, forall_const, vun, Int.reduceEq, Int.reduceNeg, Nat.reduceGT, Nat.reduceLT, Nat.reduceLeDiff, Nat.reduceEqDiff, ↓reduceIte, reduceCtorEq, Int.reduceToNat, Int.reduceLE, Int.reduceLT, Nat.reduceAdd, Nat.reduceMul, h2, ff_105]
      repeat (first | refine qqn rfl ?_ | ((first | (refine WK.rgn ?_ ?_; kernel_rfl) | refine AtCall.now ?_); simp (config := {maxSteps:=999999}) only [SS, qx2, forall_const, vun, Int.reduceEq, Int.reduceNeg, Nat.reduceGT, Nat.reduceLT, Nat.reduceLeDiff, Nat.reduceEqDiff, ↓reduceIte, reduceCtorEq, Int.reduceToNat, Int.reduceLE, Int.reduceLT, Nat.reduceAdd, Nat.reduceMul, h1, h2, ff_105]) | refine qqj rfl ?_ | refine qqk rfl ?_)
      (first | refine WK.retNil ⟨Or.inr rfl, _, rfl, ?_, ?_⟩ | refine WK.skipNil ⟨Or.inl rfl, _, rfl, ?_, ?_⟩)
      · exact fun _ _ => rfl
      · simp only [packed, fset_apply, Nat.reduceEqDiff, ↓reduceIte, List.getD_cons_zero, List.getD_cons_succ, lessB, h1, h2, ff_105]
        simp
  · simp (config := {maxSteps:=999999}) only [SS, qx2, forall_const, vun, Int.reduceEq, Int.reduceNeg, Nat.reduceGT, Nat.reduceLT, Nat.reduceLeDiff, Nat.reduceEqDiff, ↓reduceIte, reduceCtorEq, Int.reduceToNat, Int.reduceLE, Int.reduceLT, Nat.reduceAdd, Nat.reduceMul, ff_105]
    repeat (first | refine qqn rfl ?_ | ((first | (refine WK.rgn ?_ ?_; kernel_rfl) | refine AtCall.now ?_); simp (config := {maxSteps:=999999}) only [SS, qx2, forall_const, vun, Int.reduceEq, Int.reduceNeg, Nat.reduceGT, Nat.reduceLT, Nat.reduceLeDiff, Nat.reduceEqDiff, ↓reduceIte, reduceCtorEq, Int.reduceToNat, Int.reduceLE, Int.reduceLT, Nat.reduceAdd, Nat.reduceMul, ff_105]) | refine qqj rfl ?_ | refine qqk rfl ?_)
    refine AtCall.by (nan_gives a _ _) ?_
    rintro v n' H' hk ⟨rfl, rfl, rfl⟩
    simp (config := {maxSteps:=999999}) only [SS, qx2, forall_const, vun, Int.reduceEq, Int.reduceNeg, Nat.reduceGT, Nat.reduceLT, Nat.reduceLeDiff, Nat.reduceEqDiff, ↓reduceIte, reduceCtorEq, Int.reduceToNat, Int.reduceLE, Int.reduceLT, Nat.reduceAdd, Nat.reduceMul, h1, ff_105]
    repeat (first | refine qqn rfl ?_ | ((first | (refine WK.rgn ?_ ?_; kernel_rfl) | refine AtCall.now ?_); simp (config := {maxSteps:=999999}) only [SS, qx2, forall_const, vun, Int.reduceEq, Int.reduceNeg, Nat.reduceGT, Nat.reduceLT, Nat.reduceLeDiff, Nat.reduceEqDiff, ↓reduceIte, reduceCtorEq, Int.reduceToNat, Int.reduceLE, Int.reduceLT, Nat.reduceAdd, Nat.reduceMul, h1, ff_105]) | refine qqj rfl ?_ | refine qqk rfl ?_)
    (first | refine WK.retNil ⟨Or.inr rfl, _, rfl, ?_, ?_⟩ | refine WK.skipNil ⟨Or.inl rfl, _, rfl, ?_, ?_⟩)
    · exact fun _ _ => rfl
    · simp only [packed, fset_apply, Nat.reduceEqDiff, ↓reduceIte, List.getD_cons_zero, List.getD_cons_succ, lessB, h1, ff_105]
      simp
def sameB (a b : Nat) : Bool := !lessB a b && !lessB b a
theorem sameB_gives (a b : Nat) (n : Nat) (H : Heap) : Gives Try.prog 95 [.float .f64 a, .float .f64 b] n H fun v n' H' => v = .bool (sameB a b) ∧ n' = n ∧ H' = H := by
  refine Gives.of orders ok95 (Nat.le_of_ble_eq_true rfl) ?_
  repeat (first | refine qqn rfl ?_ | ((first | (refine WK.rgn ?_ ?_; kernel_rfl) | refine AtCall.now ?_); simp (config := {maxSteps:=999999}) only [SS, qg0, forall_const, vun, tpick, Int.reduceEq, Int.reduceNeg, Nat.reduceGT, Nat.reduceLT, Nat.reduceLeDiff, Nat.reduceEqDiff, ↓reduceIte, reduceCtorEq, Int.reduceToNat, Int.reduceLE, Int.reduceLT, Nat.reduceAdd, Nat.reduceMul]) | refine qqj rfl ?_ | refine qqk rfl ?_)
  refine AtCall.by (lessB_gives a b n H) ?_
  rintro v n' H' hk ⟨rfl, rfl, rfl⟩
  cases h1 : lessB a b
  · simp (config := {maxSteps:=999999}) only [SS, qg0, forall_const, vun, tpick, Int.reduceEq, Int.reduceNeg, Nat.reduceGT, Nat.reduceLT, Nat.reduceLeDiff, Nat.reduceEqDiff, ↓reduceIte, reduceCtorEq, Int.reduceToNat, Int.reduceLE, Int.reduceLT, Nat.reduceAdd, Nat.reduceMul]
    refine AtCall.by (lessB_gives b a _ _) ?_
    rintro v n' H' hk ⟨rfl, rfl, rfl⟩
    simp (config := {maxSteps:=999999}) only [SS, qg0, forall_const, vun, tpick, Int.reduceEq, Int.reduceNeg, Nat.reduceGT, Nat.reduceLT, Nat.reduceLeDiff, Nat.reduceEqDiff, ↓reduceIte, reduceCtorEq, Int.reduceToNat, Int.reduceLE, Int.reduceLT, Nat.reduceAdd, Nat.reduceMul]
    repeat (first | refine qqn rfl ?_ | ((first | (refine WK.rgn ?_ ?_; kernel_rfl) | refine AtCall.now ?_); simp (config := {maxSteps:=999999}) only [SS, qg0, forall_const, vun, tpick, Int.reduceEq, Int.reduceNeg, Nat.reduceGT, Nat.reduceLT, Nat.reduceLeDiff, Nat.reduceEqDiff, ↓reduceIte, reduceCtorEq, Int.reduceToNat, Int.reduceLE, Int.reduceLT, Nat.reduceAdd, Nat.reduceMul]) | refine qqj rfl ?_ | refine qqk rfl ?_)
    (first | refine WK.retNil ⟨Or.inr rfl, _, rfl, ?_, ?_⟩ | refine WK.skipNil ⟨Or.inl rfl, _, rfl, ?_, ?_⟩)
    · exact fun _ _ => rfl
    · simp only [packed, fset_apply, Nat.reduceEqDiff, ↓reduceIte, List.getD_cons_zero, List.getD_cons_succ, sameB, h1]
      simp
  · simp (config := {maxSteps:=999999}) only [SS, qg0, forall_const, vun, tpick, Int.reduceEq, Int.reduceNeg, Nat.reduceGT, Nat.reduceLT, Nat.reduceLeDiff, Nat.reduceEqDiff, ↓reduceIte, reduceCtorEq, Int.reduceToNat, Int.reduceLE, Int.reduceLT, Nat.reduceAdd, Nat.reduceMul]
    repeat (first | refine qqn rfl ?_ | ((first | (refine WK.rgn ?_ ?_; kernel_rfl) | refine AtCall.now ?_); simp (config := {maxSteps:=999999}) only [SS, qg0, forall_const, vun, tpick, Int.reduceEq, Int.reduceNeg, Nat.reduceGT, Nat.reduceLT, Nat.reduceLeDiff, Nat.reduceEqDiff, ↓reduceIte, reduceCtorEq, Int.reduceToNat, Int.reduceLE, Int.reduceLT, Nat.reduceAdd, Nat.reduceMul]) | refine qqj rfl ?_ | refine qqk rfl ?_)
    (first | refine WK.retNil ⟨Or.inr rfl, _, rfl, ?_, ?_⟩ | refine WK.skipNil ⟨Or.inl rfl, _, rfl, ?_, ?_⟩)
    · exact fun _ _ => rfl
    · simp only [packed, fset_apply, Nat.reduceEqDiff, ↓reduceIte, List.getD_cons_zero, List.getD_cons_succ, sameB, h1]
      simp
theorem oks : ∀ g fn c, fns.contains g = true → Try.prog.funcs[g]? = some fn → fn.body = some c → FnOK Try.prog g fn c := fnOK_of fns_ok
end Go.Proofs.Ytpdlmpbhohinpaa

namespace Go.Proofs.Ytpdlmpbhohinpaa
open Go.AM
set_option maxRecDepth 100000
theorem read_inf (n : Nat) (H : Heap) : Gives Try.prog 93 [.string ⟨#[105, 110, 102]⟩] n H fun v n' H' => v = .tuple #[.float .f64 9218868437227405312, .bool true] ∧ n' = n ∧ H' = H :=
  Gives.ev orders oks (k := 50) (by kernel_rfl)
theorem read_ninf (n : Nat) (H : Heap) : Gives Try.prog 93 [.string ⟨#[45, 105, 110, 102]⟩] n H fun v n' H' => v = .tuple #[.float .f64 18442240474082181120, .bool true] ∧ n' = n ∧ H' = H :=
  Gives.ev orders oks (k := 50) (by kernel_rfl)
end Go.Proofs.Ytpdlmpbhohinpaa

namespace Go.Proofs.Ytpdlmpbhohinpaa
open Go.AM
set_option maxRecDepth 100000
theorem wrap_range (x : Int) : -9223372036854775808 ≤ IntKind.wrap .i64 x ∧ IntKind.wrap .i64 x ≤ 9223372036854775807 := by
  simp only [IntKind.wrap, IntKind.signed, IntKind.bits]
  simp
  omega
theorem told_gives (b : Nat) (hb : b < 2 ^ 64) (n : Nat) (H : Heap) : Gives Try.prog 77 [.float .f64 b] n H fun v n' H' => (∃ t, v = .bool t) ∧ n' = n ∧ H' = H := by
  refine Gives.of orders ok77 (Nat.le_of_ble_eq_true rfl) ?_
  repeat (first | refine qqn rfl ?_ | ((first | (refine WK.rgn ?_ ?_; kernel_rfl) | refine AtCall.now ?_); simp (config := {maxSteps:=999999}) only [SS, qx15, forall_const, vconv, vun, simprocAttr, ff_77]) | (refine qqj ?_ ?_; focus (simp only [qqs, Nat.reduceEqDiff, ↓reduceIte, ff_77]; done)) | (refine qqk ?_ ?_; focus (simp only [qqs, Nat.reduceEqDiff, ↓reduceIte, ff_77]; done)))
  refine AtCall.by (read_inf n H) ?_
  rintro v n' H' hk ⟨rfl, rfl, rfl⟩
  simp (config := {maxSteps:=999999}) only [SS, qx15, forall_const, vconv, vun, simprocAttr, ff_77]
  repeat (first | refine qqn rfl ?_ | ((first | (refine WK.rgn ?_ ?_; kernel_rfl) | refine AtCall.now ?_); simp (config := {maxSteps:=999999}) only [SS, qx15, forall_const, vconv, vun, simprocAttr, ff_77]) | (refine qqj ?_ ?_; focus (simp only [qqs, Nat.reduceEqDiff, ↓reduceIte, ff_77]; done)) | (refine qqk ?_ ?_; focus (simp only [qqs, Nat.reduceEqDiff, ↓reduceIte, ff_77]; done)))
  refine AtCall.by (read_ninf _ _) ?_
  rintro v n' H' hk ⟨rfl, rfl, rfl⟩
  simp (config := {maxSteps:=999999}) only [SS, qx15, forall_const, vconv, vun, simprocAttr, ff_77]
  repeat (first | refine qqn rfl ?_ | ((first | (refine WK.rgn ?_ ?_; kernel_rfl) | refine AtCall.now ?_); simp (config := {maxSteps:=999999}) only [SS, qx15, forall_const, vconv, vun, simprocAttr, ff_77]) | (refine qqj ?_ ?_; focus (simp only [qqs, Nat.reduceEqDiff, ↓reduceIte, ff_77]; done)) | (refine qqk ?_ ?_; focus (simp only [qqs, Nat.reduceEqDiff, ↓reduceIte, ff_77]; done)))
  refine AtCall.by (nan_gives b _ _) ?_
  rintro v n' H' hk ⟨rfl, rfl, rfl⟩
  cases h1 : nanB b
  case true =>
    simp (config := {maxSteps:=999999}) only [SS, qx15, forall_const, vconv, vun, simprocAttr, ff_77]
    repeat (first | refine qqn rfl ?_ | ((first | (refine WK.rgn ?_ ?_; kernel_rfl) | refine AtCall.now ?_); simp (config := {maxSteps:=999999}) only [SS, qx15, forall_const, vconv, vun, simprocAttr, ff_77]) | (refine qqj ?_ ?_; focus (simp only [qqs, Nat.reduceEqDiff, ↓reduceIte, ff_77]; done)) | (refine qqk ?_ ?_; focus (simp only [qqs, Nat.reduceEqDiff, ↓reduceIte, ff_77]; done)))
    (first | refine WK.retNil ⟨Or.inr rfl, _, rfl, ?_, ?_⟩ | refine WK.skipNil ⟨Or.inl rfl, _, rfl, ?_, ?_⟩)
    · exact fun _ _ => rfl
    · simp only [packed, fset_apply, Nat.reduceEqDiff, ↓reduceIte, List.getD_cons_zero, List.getD_cons_succ, ff_77]
      simp
  simp (config := {maxSteps:=999999}) only [SS, qx15, forall_const, vconv, vun, simprocAttr, ff_77]
  refine AtCall.by (sameB_gives b _ _ _) ?_
  rintro v n' H' hk ⟨rfl, rfl, rfl⟩
  cases h2 : sameB b 9218868437227405312
  case true =>
    simp (config := {maxSteps:=999999}) only [SS, qx15, forall_const, vconv, vun, simprocAttr, ff_77]
    repeat (first | refine qqn rfl ?_ | ((first | (refine WK.rgn ?_ ?_; kernel_rfl) | refine AtCall.now ?_); simp (config := {maxSteps:=999999}) only [SS, qx15, forall_const, vconv, vun, simprocAttr, ff_77]) | (refine qqj ?_ ?_; focus (simp only [qqs, Nat.reduceEqDiff, ↓reduceIte, ff_77]; done)) | (refine qqk ?_ ?_; focus (simp only [qqs, Nat.reduceEqDiff, ↓reduceIte, ff_77]; done)))
    (first | refine WK.retNil ⟨Or.inr rfl, _, rfl, ?_, ?_⟩ | refine WK.skipNil ⟨Or.inl rfl, _, rfl, ?_, ?_⟩)
    · exact fun _ _ => rfl
    · simp only [packed, fset_apply, Nat.reduceEqDiff, ↓reduceIte, List.getD_cons_zero, List.getD_cons_succ, ff_77]
      simp
  simp (config := {maxSteps:=999999}) only [SS, qx15, forall_const, vconv, vun, simprocAttr, ff_77]
  refine AtCall.by (sameB_gives b _ _ _) ?_
  rintro v n' H' hk ⟨rfl, rfl, rfl⟩
  cases h3 : sameB b 18442240474082181120
  case true =>
    simp (config := {maxSteps:=999999}) only [SS, qx15, forall_const, vconv, vun, simprocAttr, ff_77]
    repeat (first | refine qqn rfl ?_ | ((first | (refine WK.rgn ?_ ?_; kernel_rfl) | refine AtCall.now ?_); simp (config := {maxSteps:=999999}) only [SS, qx15, forall_const, vconv, vun, simprocAttr, ff_77]) | (refine qqj ?_ ?_; focus (simp only [qqs, Nat.reduceEqDiff, ↓reduceIte, ff_77]; done)) | (refine qqk ?_ ?_; focus (simp only [qqs, Nat.reduceEqDiff, ↓reduceIte, ff_77]; done)))
    (first | refine WK.retNil ⟨Or.inr rfl, _, rfl, ?_, ?_⟩ | refine WK.skipNil ⟨Or.inl rfl, _, rfl, ?_, ?_⟩)
    · exact fun _ _ => rfl
    · simp only [packed, fset_apply, Nat.reduceEqDiff, ↓reduceIte, List.getD_cons_zero, List.getD_cons_succ, ff_77]
      simp
  simp (config := {maxSteps:=999999}) only [SS, qx15, forall_const, vconv, vun, simprocAttr, ff_77]
  repeat (first | refine qqn rfl ?_ | ((first | (refine WK.rgn ?_ ?_; kernel_rfl) | refine AtCall.now ?_); simp (config := {maxSteps:=999999}) only [SS, qx15, forall_const, vconv, vun, simprocAttr, ff_77]) | (refine qqj ?_ ?_; focus (simp only [qqs, Nat.reduceEqDiff, ↓reduceIte, ff_77]; done)) | (refine qqk ?_ ?_; focus (simp only [qqs, Nat.reduceEqDiff, ↓reduceIte, ff_77]; done)))
  refine WK.cut (fun s => ∃ a, s.n = n' ∧ s.H = H' ∧ s.f 7 = .float .f64 a ∧ (Ieee.Format.order Ieee.double a 4741671816366391296 = some .lt → (∀ m e, Ieee.Format.read Ieee.double a = .number true m e → m = 0) ∧ Ieee.Format.read Ieee.double a ≠ .infinity true)) ?_ ?_
  · by_cases h4 : (FloatKind.f64.format.order b 0 == some .lt) = true
    · repeat (first | refine qqn rfl ?_ | ((first | (refine WK.rgn ?_ ?_; kernel_rfl) | refine AtCall.now ?_); simp (config := {maxSteps:=999999}) only [SS, qx15, forall_const, vconv, vun, simprocAttr, h4, ff_77]) | (refine qqj ?_ ?_; focus (simp only [qqs, Nat.reduceEqDiff, ↓reduceIte, h4, ff_77]; done)) | (refine qqk ?_ ?_; focus (simp only [qqs, Nat.reduceEqDiff, ↓reduceIte, h4, ff_77]; done)))
      refine WK.skipNil ⟨rfl, b ^^^ 2 ^ 63, rfl, rfl, rfl, fun h => neg_ok hb (by simpa [FloatKind.format] using h4) h⟩
    · repeat (first | refine qqn rfl ?_ | ((first | (refine WK.rgn ?_ ?_; kernel_rfl) | refine AtCall.now ?_); simp (config := {maxSteps:=999999}) only [SS, qx15, forall_const, vconv, vun, simprocAttr, h4, ff_77]) | (refine qqj ?_ ?_; focus (simp only [qqs, Nat.reduceEqDiff, ↓reduceIte, h4, ff_77]; done)) | (refine qqk ?_ ?_; focus (simp only [qqs, Nat.reduceEqDiff, ↓reduceIte, h4, ff_77]; done)))
      refine WK.skipNil ⟨rfl, b, rfl, rfl, rfl, fun h => pos_ok (by simpa [FloatKind.format] using h4)⟩
  rintro ⟨f, n', H'⟩ ⟨a, rfl, rfl, f7, ha⟩
  simp only at f7
  by_cases h5 : (FloatKind.f64.format.order a 4741671816366391296 == some .lt) = true
  · have h5' : Ieee.Format.order Ieee.double a 4741671816366391296 = some .lt := by simpa [FloatKind.format] using h5
    obtain ⟨r1, r2, z, e1, e2, e3, e4⟩ := told_ok h5' (ha h5').1 (ha h5').2
    have e1 : FloatKind.f64.format.mul a 4696837146684686336 = some r1 := e1
    have e2 : FloatKind.f64.format.add r1 4602678819172646912 = some r2 := e2
    have e3 : (FloatKind.f64.decode r2).toInt .zero = some z := e3
    have e5 : IntKind.i64.min ≤ z := by show -9223372036854775808 ≤ z; omega
    have e6 : z ≤ IntKind.i64.max := by show z ≤ 9223372036854775807; omega
    repeat (first | refine qqn rfl ?_ | ((first | (refine WK.rgn ?_ ?_; kernel_rfl) | refine AtCall.now ?_); simp (config := {maxSteps:=999999}) only [SS, qx15, forall_const, vconv, vun, simprocAttr, f7, h5, e1, e2, e3, e5, e6, ff_77]) | (refine qqj ?_ ?_; focus (simp only [qqs, Nat.reduceEqDiff, ↓reduceIte, f7, h5, e1, e2, e3, e5, e6, ff_77]; done)) | (refine qqk ?_ ?_; focus (simp only [qqs, Nat.reduceEqDiff, ↓reduceIte, f7, h5, e1, e2, e3, e5, e6, ff_77]; done)))
    refine WK.loop (fun k s => ∃ d : Int, s.n = n' ∧ s.H = H' ∧ s.f 7 = .float .f64 a ∧ s.f 8 = .int .i64 z ∧ s.f 9 = .int .i64 d ∧ -2 ≤ d ∧ d ≤ 3 ∧ (k : Int) = 3 - d) 5 ?_ ?_
    · exact ⟨-2, rfl, rfl, f7, rfl, rfl, by omega, by omega, by omega⟩
    rintro k ⟨f, n', H'⟩ ⟨d, rfl, rfl, f7, f8, f9, d1, d2, hk⟩ ih
    simp only at f7 f8 f9 ih
    by_cases g1 : d ≤ 2
    · by_cases g2 : 0 ≤ IntKind.i64.wrap (z + d)
      · by_cases g3 : IntKind.i64.wrap (z + d) < 1000000000000000
        · obtain ⟨q, hq⟩ := div_ok (IntKind.i64.wrap (z + d)) (by have := wrap_range (z + d); omega)
          have hq : FloatKind.f64.format.div (FloatKind.f64.nearest (IntKind.i64.wrap (z + d))) 4696837146684686336 = some q := hq
          by_cases g4 : (FloatKind.f64.format.order q a == some .eq) = true
          · repeat (first | refine qqn rfl ?_ | ((first | (refine WK.rgn ?_ ?_; kernel_rfl) | refine AtCall.now ?_); simp (config := {maxSteps:=999999}) only [SS, qx15, forall_const, vconv, vun, simprocAttr, f7, f8, f9, g1, g2, g3, hq, g4, ff_77]) | (refine qqj ?_ ?_; focus (simp only [qqs, Nat.reduceEqDiff, ↓reduceIte, f7, f8, f9, g1, g2, g3, hq, g4, ff_77]; done)) | (refine qqk ?_ ?_; focus (simp only [qqs, Nat.reduceEqDiff, ↓reduceIte, f7, f8, f9, g1, g2, g3, hq, g4, ff_77]; done)))
            (first | refine WK.retNil ⟨Or.inr rfl, _, rfl, ?_, ?_⟩ | refine WK.skipNil ⟨Or.inl rfl, _, rfl, ?_, ?_⟩)
            · exact fun _ _ => rfl
            · simp only [packed, fset_apply, Nat.reduceEqDiff, ↓reduceIte, List.getD_cons_zero, List.getD_cons_succ, ff_77]
              simp
          · repeat (first | refine qqn rfl ?_ | ((first | (refine WK.rgn ?_ ?_; kernel_rfl) | refine AtCall.now ?_); simp (config := {maxSteps:=999999}) only [SS, qx15, forall_const, vconv, vun, simprocAttr, f7, f8, f9, g1, g2, g3, hq, g4, ff_77]) | (refine qqj ?_ ?_; focus (simp only [qqs, Nat.reduceEqDiff, ↓reduceIte, f7, f8, f9, g1, g2, g3, hq, g4, ff_77]; done)) | (refine qqk ?_ ?_; focus (simp only [qqs, Nat.reduceEqDiff, ↓reduceIte, f7, f8, f9, g1, g2, g3, hq, g4, ff_77]; done)))
            refine ih (k - 1) (by omega) _ ⟨d + 1, rfl, rfl, f7, f8, ?_, by omega, by omega, by omega⟩
            simp only [packed, fset_apply, Nat.reduceEqDiff, ↓reduceIte, List.getD_cons_zero, List.getD_cons_succ, ff_77]
            rw [wrap_in (by omega) (by omega)]
        · repeat (first | refine qqn rfl ?_ | ((first | (refine WK.rgn ?_ ?_; kernel_rfl) | refine AtCall.now ?_); simp (config := {maxSteps:=999999}) only [SS, qx15, forall_const, vconv, vun, simprocAttr, f7, f8, f9, g1, g2, g3, ff_77]) | (refine qqj ?_ ?_; focus (simp only [qqs, Nat.reduceEqDiff, ↓reduceIte, f7, f8, f9, g1, g2, g3, ff_77]; done)) | (refine qqk ?_ ?_; focus (simp only [qqs, Nat.reduceEqDiff, ↓reduceIte, f7, f8, f9, g1, g2, g3, ff_77]; done)))
          refine ih (k - 1) (by omega) _ ⟨d + 1, rfl, rfl, f7, f8, ?_, by omega, by omega, by omega⟩
          simp only [packed, fset_apply, Nat.reduceEqDiff, ↓reduceIte, List.getD_cons_zero, List.getD_cons_succ, ff_77]
          rw [wrap_in (by omega) (by omega)]
      · repeat (first | refine qqn rfl ?_ | ((first | (refine WK.rgn ?_ ?_; kernel_rfl) | refine AtCall.now ?_); simp (config := {maxSteps:=999999}) only [SS, qx15, forall_const, vconv, vun, simprocAttr, f7, f8, f9, g1, g2, ff_77]) | (refine qqj ?_ ?_; focus (simp only [qqs, Nat.reduceEqDiff, ↓reduceIte, f7, f8, f9, g1, g2, ff_77]; done)) | (refine qqk ?_ ?_; focus (simp only [qqs, Nat.reduceEqDiff, ↓reduceIte, f7, f8, f9, g1, g2, ff_77]; done)))
        refine ih (k - 1) (by omega) _ ⟨d + 1, rfl, rfl, f7, f8, ?_, by omega, by omega, by omega⟩
        simp only [packed, fset_apply, Nat.reduceEqDiff, ↓reduceIte, List.getD_cons_zero, List.getD_cons_succ, ff_77]
        rw [wrap_in (by omega) (by omega)]
    · repeat (first | refine qqn rfl ?_ | ((first | (refine WK.rgn ?_ ?_; kernel_rfl) | refine AtCall.now ?_); simp (config := {maxSteps:=999999}) only [SS, qx15, forall_const, vconv, vun, simprocAttr, f7, f8, f9, g1, ff_77]) | (refine qqj ?_ ?_; focus (simp only [qqs, Nat.reduceEqDiff, ↓reduceIte, f7, f8, f9, g1, ff_77]; done)) | (refine qqk ?_ ?_; focus (simp only [qqs, Nat.reduceEqDiff, ↓reduceIte, f7, f8, f9, g1, ff_77]; done)))
      (first | refine WK.retNil ⟨Or.inr rfl, _, rfl, ?_, ?_⟩ | refine WK.skipNil ⟨Or.inl rfl, _, rfl, ?_, ?_⟩)
      · exact fun _ _ => rfl
      · simp only [packed, fset_apply, Nat.reduceEqDiff, ↓reduceIte, List.getD_cons_zero, List.getD_cons_succ, ff_77]
        simp
  · repeat (first | refine qqn rfl ?_ | ((first | (refine WK.rgn ?_ ?_; kernel_rfl) | refine AtCall.now ?_); simp (config := {maxSteps:=999999}) only [SS, qx15, forall_const, vconv, vun, simprocAttr, f7, h5, ff_77]) | (refine qqj ?_ ?_; focus (simp only [qqs, Nat.reduceEqDiff, ↓reduceIte, f7, h5, ff_77]; done)) | (refine qqk ?_ ?_; focus (simp only [qqs, Nat.reduceEqDiff, ↓reduceIte, f7, h5, ff_77]; done)))
    (first | refine WK.retNil ⟨Or.inr rfl, _, rfl, ?_, ?_⟩ | refine WK.skipNil ⟨Or.inl rfl, _, rfl, ?_, ?_⟩)
    · exact fun _ _ => rfl
    · simp only [packed, fset_apply, Nat.reduceEqDiff, ↓reduceIte, List.getD_cons_zero, List.getD_cons_succ, ff_77]
      simp
end Go.Proofs.Ytpdlmpbhohinpaa
