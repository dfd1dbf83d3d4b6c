/- A part of a proof. Its conditions: none. -/
import Derived.Test.YtemkglelfeidhaaAmJFacts
import Derived.Test.YtemkglelfeidhaaAmC
import Derived.Test.YtemkglelfeidhaaAmD
import Derived.Test.YtemkglelfeidhaaAmB
set_option linter.all false
namespace Go.Proofs.Ytemkglelfeidhaa
open Go.AM
set_option maxRecDepth 100000
theorem ext_bits (b : Nat) : aext Try.prog 84 [.float .f64 b] = some (.int .u64 b) := by
 have h : (match Try.prog.funcs[84]? with | some fn => fn.body.isNone && fn.origin == "" && (fn.name == "math.Float64bits" || fn.name == "internal/strconv.float64bits") | none => false) = true := by kernel_rfl
 unfold aext
 split at h
 ·rename_i fn hf
  simp only [Bool.and_eq_true] at h
  simp [hf, h]
 ·cases h
theorem min52 : min 52 IntKind.u64.bits = 52 := rfl
theorem min12 : min 12 IntKind.u64.bits = 12 := rfl
theorem min63 : min 63 IntKind.u64.bits = 63 := rfl
def expB (b : Nat) : Int := IntKind.u64.wrap (BitVec.ofInt IntKind.u64.bits ((b : Int).fdiv (2 ^ 52)) &&& BitVec.ofInt IntKind.u64.bits 2047).toNat
def nanB (b : Nat) : Bool := decide (expB b = 2047) && !decide (IntKind.u64.wrap ((b : Int) * 2 ^ 12) = 0)
theorem nan_gives (b : Nat) (n : Nat) (H : Heap) : Gives Try.prog 70 [.float .f64 b] n H fun v n' H' => v = .bool (nanB b) ∧ n' = n ∧ H' = H := by
 refine Gives.of orders ok70 (Nat.le_of_ble_eq_true rfl) ?_
 have e : IntKind.u64.wrap (BitVec.ofInt IntKind.u64.bits ((b : Int).fdiv (2 ^ 52)) &&& BitVec.ofInt IntKind.u64.bits 2047).toNat = expB b := rfl
 by_cases h1 : expB b = 2047
 ·repeat (first | refine qqm rfl ?_ | ((first | refine qqr ?_ | refine qqt ?_); simp only [SS, qx2, Int.reduceEq, Int.reduceNeg, Nat.reduceGT, Nat.reduceLT, Nat.reduceLeDiff, Nat.reduceEqDiff, ↓reduceIte, reduceCtorEq, Int.reduceToNat, Int.reduceLE, Int.reduceLT, Nat.reduceAdd, Nat.reduceMul, ext_bits, e, h1, min52, min12, ff_70]))
  (first | refine WK.retNil ⟨Or.inr rfl, _, rfl, ?_, ?_⟩ | refine WK.skipNil ⟨Or.inl rfl, _, rfl, ?_, ?_⟩)
  ·exact fun _ _ => rfl
  ·simp only [packed, fset_apply, Nat.reduceEqDiff, ↓reduceIte, List.getD_cons_zero, List.getD_cons_succ, nanB, h1, ff_70]
   simp
 ·repeat (first | refine qqm rfl ?_ | ((first | refine qqr ?_ | refine qqt ?_); simp only [SS, qx2, Int.reduceEq, Int.reduceNeg, Nat.reduceGT, Nat.reduceLT, Nat.reduceLeDiff, Nat.reduceEqDiff, ↓reduceIte, reduceCtorEq, Int.reduceToNat, Int.reduceLE, Int.reduceLT, Nat.reduceAdd, Nat.reduceMul, ext_bits, e, h1, min52, min12, ff_70]))
  (first | refine WK.retNil ⟨Or.inr rfl, _, rfl, ?_, ?_⟩ | refine WK.skipNil ⟨Or.inl rfl, _, rfl, ?_, ?_⟩)
  ·exact fun _ _ => rfl
  ·simp only [packed, fset_apply, Nat.reduceEqDiff, ↓reduceIte, List.getD_cons_zero, List.getD_cons_succ, nanB, h1, ff_70]
   simp
def belowB (b : Nat) : Bool := decide ((b : Int).fdiv (2 ^ 63) = 1)
theorem below_gives (b : Nat) (n : Nat) (H : Heap) : Gives Try.prog 88 [.float .f64 b] n H fun v n' H' => v = .bool (belowB b) ∧ n' = n ∧ H' = H := by
 refine Gives.of orders ok88 (Nat.le_of_ble_eq_true rfl) ?_
 repeat (first | refine qqm rfl ?_ | ((first | refine qqr ?_ | refine qqt ?_); simp only [SS, qx21, Int.reduceEq, Int.reduceNeg, Nat.reduceGT, Nat.reduceLT, Nat.reduceLeDiff, Nat.reduceEqDiff, ↓reduceIte, reduceCtorEq, Int.reduceToNat, Int.reduceLE, Int.reduceLT, Nat.reduceAdd, Nat.reduceMul, ext_bits, min63, ff_88]))
 (first | refine WK.retNil ⟨Or.inr rfl, _, rfl, ?_, ?_⟩ | refine WK.skipNil ⟨Or.inl rfl, _, rfl, ?_, ?_⟩)
 ·exact fun _ _ => rfl
 ·simp only [packed, fset_apply, Nat.reduceEqDiff, ↓reduceIte, List.getD_cons_zero, List.getD_cons_succ, belowB, ff_88]
  simp
def lessB (a b : Nat) : Bool :=
 if nanB a || nanB b then !nanB a && nanB b
 else if belowB a != belowB b then belowB a
 else if belowB a then decide (b < a) else decide (a < b)
theorem lessB_gives (a b : Nat) (n : Nat) (H : Heap) : Gives Try.prog 85 [.float .f64 a, .float .f64 b] n H fun v n' H' => v = .bool (lessB a b) ∧ n' = n ∧ H' = H := by
 refine Gives.of orders ok85 (Nat.le_of_ble_eq_true rfl) ?_
 repeat (first | refine qqm rfl ?_ | ((first | refine qqr ?_ | refine qqt ?_); simp only [SS, qx2, vun, Int.reduceEq, Int.reduceNeg, Nat.reduceGT, Nat.reduceLT, Nat.reduceLeDiff, Nat.reduceEqDiff, ↓reduceIte, reduceCtorEq, Int.reduceToNat, Int.reduceLE, Int.reduceLT, Nat.reduceAdd, Nat.reduceMul, ff_85]))
 refine AtCall.by (nan_gives a n H) ?_
 rintro v n' H' hk ⟨rfl, rfl, rfl⟩
 cases h1 : nanB a
 ·simp only [SS, qx2, vun, Int.reduceEq, Int.reduceNeg, Nat.reduceGT, Nat.reduceLT, Nat.reduceLeDiff, Nat.reduceEqDiff, ↓reduceIte, reduceCtorEq, Int.reduceToNat, Int.reduceLE, Int.reduceLT, Nat.reduceAdd, Nat.reduceMul, ff_85]
  refine AtCall.by (nan_gives b _ _) ?_
  rintro v n' H' hk ⟨rfl, rfl, rfl⟩
  cases h2 : nanB b
  ·simp only [SS, qx2, vun, Int.reduceEq, Int.reduceNeg, Nat.reduceGT, Nat.reduceLT, Nat.reduceLeDiff, Nat.reduceEqDiff, ↓reduceIte, reduceCtorEq, Int.reduceToNat, Int.reduceLE, Int.reduceLT, Nat.reduceAdd, Nat.reduceMul, ff_85]
   repeat (first | refine qqm rfl ?_ | ((first | refine qqr ?_ | refine qqt ?_); simp only [SS, qx2, vun, Int.reduceEq, Int.reduceNeg, Nat.reduceGT, Nat.reduceLT, Nat.reduceLeDiff, Nat.reduceEqDiff, ↓reduceIte, reduceCtorEq, Int.reduceToNat, Int.reduceLE, Int.reduceLT, Nat.reduceAdd, Nat.reduceMul, ff_85]))
   refine AtCall.by (below_gives a _ _) ?_
   rintro v n' H' hk ⟨rfl, rfl, rfl⟩
   simp only [SS, qx2, vun, Int.reduceEq, Int.reduceNeg, Nat.reduceGT, Nat.reduceLT, Nat.reduceLeDiff, Nat.reduceEqDiff, ↓reduceIte, reduceCtorEq, Int.reduceToNat, Int.reduceLE, Int.reduceLT, Nat.reduceAdd, Nat.reduceMul, ff_85]
   refine AtCall.by (below_gives b _ _) ?_
   rintro v n' H' hk ⟨rfl, rfl, rfl⟩
   cases h3 : belowB a <;> cases h4 : belowB b
   ·simp only [SS, qx2, vun, Int.reduceEq, Int.reduceNeg, Nat.reduceGT, Nat.reduceLT, Nat.reduceLeDiff, Nat.reduceEqDiff, ↓reduceIte, reduceCtorEq, Int.reduceToNat, Int.reduceLE, Int.reduceLT, Nat.reduceAdd, Nat.reduceMul, ff_85]
    repeat (first | refine qqm rfl ?_ | ((first | refine qqr ?_ | refine qqt ?_); simp only [SS, qx2, vun, Int.reduceEq, Int.reduceNeg, Nat.reduceGT, Nat.reduceLT, Nat.reduceLeDiff, Nat.reduceEqDiff, ↓reduceIte, reduceCtorEq, Int.reduceToNat, Int.reduceLE, Int.reduceLT, Nat.reduceAdd, Nat.reduceMul, ff_85]))
    refine AtCall.by (below_gives a _ _) ?_
    rintro v n' H' hk ⟨rfl, rfl, rfl⟩
    simp only [SS, qx2, vun, Int.reduceEq, Int.reduceNeg, Nat.reduceGT, Nat.reduceLT, Nat.reduceLeDiff, Nat.reduceEqDiff, ↓reduceIte, reduceCtorEq, Int.reduceToNat, Int.reduceLE, Int.reduceLT, Nat.reduceAdd, Nat.reduceMul, h3, ff_85]
    repeat (first | refine qqm rfl ?_ | ((first | refine qqr ?_ | refine qqt ?_); simp only [SS, qx2, vun, Int.reduceEq, Int.reduceNeg, Nat.reduceGT, Nat.reduceLT, Nat.reduceLeDiff, Nat.reduceEqDiff, ↓reduceIte, reduceCtorEq, Int.reduceToNat, Int.reduceLE, Int.reduceLT, Nat.reduceAdd, Nat.reduceMul, h3, ext_bits, ff_85]))
    (first | refine WK.retNil ⟨Or.inr rfl, _, rfl, ?_, ?_⟩ | refine WK.skipNil ⟨Or.inl rfl, _, rfl, ?_, ?_⟩)
    ·exact fun _ _ => rfl
    ·simp only [packed, fset_apply, Nat.reduceEqDiff, ↓reduceIte, List.getD_cons_zero, List.getD_cons_succ, lessB, h1, h2, h3, h4, ff_85]
     simp
   ·simp only [SS, qx2, vun, Int.reduceEq, Int.reduceNeg, Nat.reduceGT, Nat.reduceLT, Nat.reduceLeDiff, Nat.reduceEqDiff, ↓reduceIte, reduceCtorEq, Int.reduceToNat, Int.reduceLE, Int.reduceLT, Nat.reduceAdd, Nat.reduceMul, ff_85]
    repeat (first | refine qqm rfl ?_ | ((first | refine qqr ?_ | refine qqt ?_); simp only [SS, qx2, vun, Int.reduceEq, Int.reduceNeg, Nat.reduceGT, Nat.reduceLT, Nat.reduceLeDiff, Nat.reduceEqDiff, ↓reduceIte, reduceCtorEq, Int.reduceToNat, Int.reduceLE, Int.reduceLT, Nat.reduceAdd, Nat.reduceMul, ff_85]))
    refine AtCall.by (below_gives a _ _) ?_
    rintro v n' H' hk ⟨rfl, rfl, rfl⟩
    simp only [SS, qx2, vun, Int.reduceEq, Int.reduceNeg, Nat.reduceGT, Nat.reduceLT, Nat.reduceLeDiff, Nat.reduceEqDiff, ↓reduceIte, reduceCtorEq, Int.reduceToNat, Int.reduceLE, Int.reduceLT, Nat.reduceAdd, Nat.reduceMul, h3, ff_85]
    repeat (first | refine qqm rfl ?_ | ((first | refine qqr ?_ | refine qqt ?_); simp only [SS, qx2, vun, Int.reduceEq, Int.reduceNeg, Nat.reduceGT, Nat.reduceLT, Nat.reduceLeDiff, Nat.reduceEqDiff, ↓reduceIte, reduceCtorEq, Int.reduceToNat, Int.reduceLE, Int.reduceLT, Nat.reduceAdd, Nat.reduceMul, h3, ff_85]))
    (first | refine WK.retNil ⟨Or.inr rfl, _, rfl, ?_, ?_⟩ | refine WK.skipNil ⟨Or.inl rfl, _, rfl, ?_, ?_⟩)
    ·exact fun _ _ => rfl
    ·simp only [packed, fset_apply, Nat.reduceEqDiff, ↓reduceIte, List.getD_cons_zero, List.getD_cons_succ, lessB, h1, h2, h3, h4, ff_85]
     simp
   ·simp only [SS, qx2, vun, Int.reduceEq, Int.reduceNeg, Nat.reduceGT, Nat.reduceLT, Nat.reduceLeDiff, Nat.reduceEqDiff, ↓reduceIte, reduceCtorEq, Int.reduceToNat, Int.reduceLE, Int.reduceLT, Nat.reduceAdd, Nat.reduceMul, ff_85]
    repeat (first | refine qqm rfl ?_ | ((first | refine qqr ?_ | refine qqt ?_); simp only [SS, qx2, vun, Int.reduceEq, Int.reduceNeg, Nat.reduceGT, Nat.reduceLT, Nat.reduceLeDiff, Nat.reduceEqDiff, ↓reduceIte, reduceCtorEq, Int.reduceToNat, Int.reduceLE, Int.reduceLT, Nat.reduceAdd, Nat.reduceMul, ff_85]))
    refine AtCall.by (below_gives a _ _) ?_
    rintro v n' H' hk ⟨rfl, rfl, rfl⟩
    simp only [SS, qx2, vun, Int.reduceEq, Int.reduceNeg, Nat.reduceGT, Nat.reduceLT, Nat.reduceLeDiff, Nat.reduceEqDiff, ↓reduceIte, reduceCtorEq, Int.reduceToNat, Int.reduceLE, Int.reduceLT, Nat.reduceAdd, Nat.reduceMul, h3, ff_85]
    repeat (first | refine qqm rfl ?_ | ((first | refine qqr ?_ | refine qqt ?_); simp only [SS, qx2, vun, Int.reduceEq, Int.reduceNeg, Nat.reduceGT, Nat.reduceLT, Nat.reduceLeDiff, Nat.reduceEqDiff, ↓reduceIte, reduceCtorEq, Int.reduceToNat, Int.reduceLE, Int.reduceLT, Nat.reduceAdd, Nat.reduceMul, h3, ff_85]))
    (first | refine WK.retNil ⟨Or.inr rfl, _, rfl, ?_, ?_⟩ | refine WK.skipNil ⟨Or.inl rfl, _, rfl, ?_, ?_⟩)
    ·exact fun _ _ => rfl
    ·simp only [packed, fset_apply, Nat.reduceEqDiff, ↓reduceIte, List.getD_cons_zero, List.getD_cons_succ, lessB, h1, h2, h3, h4, ff_85]
     simp
   ·simp only [SS, qx2, vun, Int.reduceEq, Int.reduceNeg, Nat.reduceGT, Nat.reduceLT, Nat.reduceLeDiff, Nat.reduceEqDiff, ↓reduceIte, reduceCtorEq, Int.reduceToNat, Int.reduceLE, Int.reduceLT, Nat.reduceAdd, Nat.reduceMul, ff_85]
    repeat (first | refine qqm rfl ?_ | ((first | refine qqr ?_ | refine qqt ?_); simp only [SS, qx2, vun, Int.reduceEq, Int.reduceNeg, Nat.reduceGT, Nat.reduceLT, Nat.reduceLeDiff, Nat.reduceEqDiff, ↓reduceIte, reduceCtorEq, Int.reduceToNat, Int.reduceLE, Int.reduceLT, Nat.reduceAdd, Nat.reduceMul, ff_85]))
    refine AtCall.by (below_gives a _ _) ?_
    rintro v n' H' hk ⟨rfl, rfl, rfl⟩
    simp only [SS, qx2, vun, Int.reduceEq, Int.reduceNeg, Nat.reduceGT, Nat.reduceLT, Nat.reduceLeDiff, Nat.reduceEqDiff, ↓reduceIte, reduceCtorEq, Int.reduceToNat, Int.reduceLE, Int.reduceLT, Nat.reduceAdd, Nat.reduceMul, h3, ff_85]
    repeat (first | refine qqm rfl ?_ | ((first | refine qqr ?_ | refine qqt ?_); simp only [SS, qx2, vun, Int.reduceEq, Int.reduceNeg, Nat.reduceGT, Nat.reduceLT, Nat.reduceLeDiff, Nat.reduceEqDiff, ↓reduceIte, reduceCtorEq, Int.reduceToNat, Int.reduceLE, Int.reduceLT, Nat.reduceAdd, Nat.reduceMul, h3, ext_bits, ff_85]))
    (first | refine WK.retNil ⟨Or.inr rfl, _, rfl, ?_, ?_⟩ | refine WK.skipNil ⟨Or.inl rfl, _, rfl, ?_, ?_⟩)
    ·exact fun _ _ => rfl
    ·simp only [packed, fset_apply, Nat.reduceEqDiff, ↓reduceIte, List.getD_cons_zero, List.getD_cons_succ, lessB, h1, h2, h3, h4, ff_85]
     simp
  ·simp only [SS, qx2, vun, Int.reduceEq, Int.reduceNeg, Nat.reduceGT, Nat.reduceLT, Nat.reduceLeDiff, Nat.reduceEqDiff, ↓reduceIte, reduceCtorEq, Int.reduceToNat, Int.reduceLE, Int.reduceLT, Nat.reduceAdd, Nat.reduceMul, ff_85]
   repeat (first | refine qqm rfl ?_ | ((first | refine qqr ?_ | refine qqt ?_); simp only [SS, qx2, vun, Int.reduceEq, Int.reduceNeg, Nat.reduceGT, Nat.reduceLT, Nat.reduceLeDiff, Nat.reduceEqDiff, ↓reduceIte, reduceCtorEq, Int.reduceToNat, Int.reduceLE, Int.reduceLT, Nat.reduceAdd, Nat.reduceMul, ff_85]))
   refine AtCall.by (nan_gives a _ _) ?_
   rintro v n' H' hk ⟨rfl, rfl, rfl⟩
   simp only [SS, qx2, vun, Int.reduceEq, Int.reduceNeg, Nat.reduceGT, Nat.reduceLT, Nat.reduceLeDiff, Nat.reduceEqDiff, ↓reduceIte, reduceCtorEq, Int.reduceToNat, Int.reduceLE, Int.reduceLT, Nat.reduceAdd, Nat.reduceMul, h1, ff_85]
   refine AtCall.by (nan_gives b _ _) ?_
   rintro v n' H' hk ⟨rfl, rfl, rfl⟩
   simp only [SS, qx2, vun, Int.reduceEq, Int.reduceNeg, Nat.reduceGT, Nat.reduceLT, Nat.reduceLeDiff, Nat.reduceEqDiff, ↓reduceIte, reduceCtorEq, Int.reduceToNat, Int.reduceLE, Int.reduceLT, Nat.reduceAdd, Nat.reduceMul, h2, ff_85]
   repeat (first | refine qqm rfl ?_ | ((first | refine qqr ?_ | refine qqt ?_); simp only [SS, qx2, vun, Int.reduceEq, Int.reduceNeg, Nat.reduceGT, Nat.reduceLT, Nat.reduceLeDiff, Nat.reduceEqDiff, ↓reduceIte, reduceCtorEq, Int.reduceToNat, Int.reduceLE, Int.reduceLT, Nat.reduceAdd, Nat.reduceMul, h1, h2, ff_85]))
   (first | refine WK.retNil ⟨Or.inr rfl, _, rfl, ?_, ?_⟩ | refine WK.skipNil ⟨Or.inl rfl, _, rfl, ?_, ?_⟩)
   ·exact fun _ _ => rfl
   ·simp only [packed, fset_apply, Nat.reduceEqDiff, ↓reduceIte, List.getD_cons_zero, List.getD_cons_succ, lessB, h1, h2, ff_85]
    simp
 ·simp only [SS, qx2, vun, Int.reduceEq, Int.reduceNeg, Nat.reduceGT, Nat.reduceLT, Nat.reduceLeDiff, Nat.reduceEqDiff, ↓reduceIte, reduceCtorEq, Int.reduceToNat, Int.reduceLE, Int.reduceLT, Nat.reduceAdd, Nat.reduceMul, ff_85]
  repeat (first | refine qqm rfl ?_ | ((first | refine qqr ?_ | refine qqt ?_); simp only [SS, qx2, vun, Int.reduceEq, Int.reduceNeg, Nat.reduceGT, Nat.reduceLT, Nat.reduceLeDiff, Nat.reduceEqDiff, ↓reduceIte, reduceCtorEq, Int.reduceToNat, Int.reduceLE, Int.reduceLT, Nat.reduceAdd, Nat.reduceMul, ff_85]))
  refine AtCall.by (nan_gives a _ _) ?_
  rintro v n' H' hk ⟨rfl, rfl, rfl⟩
  simp only [SS, qx2, vun, Int.reduceEq, Int.reduceNeg, Nat.reduceGT, Nat.reduceLT, Nat.reduceLeDiff, Nat.reduceEqDiff, ↓reduceIte, reduceCtorEq, Int.reduceToNat, Int.reduceLE, Int.reduceLT, Nat.reduceAdd, Nat.reduceMul, h1, ff_85]
  repeat (first | refine qqm rfl ?_ | ((first | refine qqr ?_ | refine qqt ?_); simp only [SS, qx2, vun, Int.reduceEq, Int.reduceNeg, Nat.reduceGT, Nat.reduceLT, Nat.reduceLeDiff, Nat.reduceEqDiff, ↓reduceIte, reduceCtorEq, Int.reduceToNat, Int.reduceLE, Int.reduceLT, Nat.reduceAdd, Nat.reduceMul, h1, ff_85]))
  (first | refine WK.retNil ⟨Or.inr rfl, _, rfl, ?_, ?_⟩ | refine WK.skipNil ⟨Or.inl rfl, _, rfl, ?_, ?_⟩)
  ·exact fun _ _ => rfl
  ·simp only [packed, fset_apply, Nat.reduceEqDiff, ↓reduceIte, List.getD_cons_zero, List.getD_cons_succ, lessB, h1, ff_85]
   simp
def sameB (a b : Nat) : Bool := !lessB a b && !lessB b a
theorem sameB_gives (a b : Nat) (n : Nat) (H : Heap) : Gives Try.prog 71 [.float .f64 a, .float .f64 b] n H fun v n' H' => v = .bool (sameB a b) ∧ n' = n ∧ H' = H := by
 refine Gives.of orders ok71 (Nat.le_of_ble_eq_true rfl) ?_
 repeat (first | refine qqm rfl ?_ | ((first | refine qqr ?_ | refine qqt ?_); simp only [SS, qg0, vun, tpick, Int.reduceEq, Int.reduceNeg, Nat.reduceGT, Nat.reduceLT, Nat.reduceLeDiff, Nat.reduceEqDiff, ↓reduceIte, reduceCtorEq, Int.reduceToNat, Int.reduceLE, Int.reduceLT, Nat.reduceAdd, Nat.reduceMul]))
 refine AtCall.by (lessB_gives a b n H) ?_
 rintro v n' H' hk ⟨rfl, rfl, rfl⟩
 cases h1 : lessB a b
 ·simp only [SS, qg0, vun, tpick, Int.reduceEq, Int.reduceNeg, Nat.reduceGT, Nat.reduceLT, Nat.reduceLeDiff, Nat.reduceEqDiff, ↓reduceIte, reduceCtorEq, Int.reduceToNat, Int.reduceLE, Int.reduceLT, Nat.reduceAdd, Nat.reduceMul]
  refine AtCall.by (lessB_gives b a _ _) ?_
  rintro v n' H' hk ⟨rfl, rfl, rfl⟩
  simp only [SS, qg0, vun, tpick, Int.reduceEq, Int.reduceNeg, Nat.reduceGT, Nat.reduceLT, Nat.reduceLeDiff, Nat.reduceEqDiff, ↓reduceIte, reduceCtorEq, Int.reduceToNat, Int.reduceLE, Int.reduceLT, Nat.reduceAdd, Nat.reduceMul]
  repeat (first | refine qqm rfl ?_ | ((first | refine qqr ?_ | refine qqt ?_); simp only [SS, qg0, vun, tpick, Int.reduceEq, Int.reduceNeg, Nat.reduceGT, Nat.reduceLT, Nat.reduceLeDiff, Nat.reduceEqDiff, ↓reduceIte, reduceCtorEq, Int.reduceToNat, Int.reduceLE, Int.reduceLT, Nat.reduceAdd, Nat.reduceMul]))
  (first | refine WK.retNil ⟨Or.inr rfl, _, rfl, ?_, ?_⟩ | refine WK.skipNil ⟨Or.inl rfl, _, rfl, ?_, ?_⟩)
  ·exact fun _ _ => rfl
  ·simp only [packed, fset_apply, Nat.reduceEqDiff, ↓reduceIte, List.getD_cons_zero, List.getD_cons_succ, sameB, h1]
   simp
 ·simp only [SS, qg0, vun, tpick, Int.reduceEq, Int.reduceNeg, Nat.reduceGT, Nat.reduceLT, Nat.reduceLeDiff, Nat.reduceEqDiff, ↓reduceIte, reduceCtorEq, Int.reduceToNat, Int.reduceLE, Int.reduceLT, Nat.reduceAdd, Nat.reduceMul]
  repeat (first | refine qqm rfl ?_ | ((first | refine qqr ?_ | refine qqt ?_); simp only [SS, qg0, vun, tpick, Int.reduceEq, Int.reduceNeg, Nat.reduceGT, Nat.reduceLT, Nat.reduceLeDiff, Nat.reduceEqDiff, ↓reduceIte, reduceCtorEq, Int.reduceToNat, Int.reduceLE, Int.reduceLT, Nat.reduceAdd, Nat.reduceMul]))
  (first | refine WK.retNil ⟨Or.inr rfl, _, rfl, ?_, ?_⟩ | refine WK.skipNil ⟨Or.inl rfl, _, rfl, ?_, ?_⟩)
  ·exact fun _ _ => rfl
  ·simp only [packed, fset_apply, Nat.reduceEqDiff, ↓reduceIte, List.getD_cons_zero, List.getD_cons_succ, sameB, h1]
   simp
theorem oks : ∀ g fn c, fns.contains g = true → Try.prog.funcs[g]? = some fn → fn.body = some c → FnOK Try.prog g fn c := fnOK_of fns_ok
end Go.Proofs.Ytemkglelfeidhaa

namespace Go.Proofs.Ytemkglelfeidhaa
open Go.AM
set_option maxRecDepth 100000
theorem read_inf (n : Nat) (H : Heap) : Gives Try.prog 69 [.string ⟨#[105, 110, 102]⟩] n H fun v n' H' => v = .tuple #[.float .f64 9218868437227405312, .bool true] ∧ n' = n ∧ H' = H :=
 Gives.ev orders oks (k := 50) (by kernel_rfl)
theorem read_ninf (n : Nat) (H : Heap) : Gives Try.prog 69 [.string ⟨#[45, 105, 110, 102]⟩] n H fun v n' H' => v = .tuple #[.float .f64 18442240474082181120, .bool true] ∧ n' = n ∧ H' = H :=
 Gives.ev orders oks (k := 50) (by kernel_rfl)
end Go.Proofs.Ytemkglelfeidhaa

namespace Go.Proofs.Ytemkglelfeidhaa
open Go.AM
set_option maxRecDepth 100000
theorem wrap_range (x : Int) : -9223372036854775808 ≤ IntKind.wrap .i64 x ∧ IntKind.wrap .i64 x ≤ 9223372036854775807 := by
 simp only [IntKind.wrap, IntKind.signed, IntKind.bits]
 simp
 omega
theorem told_gives (b : Nat) (hb : b < 2 ^ 64) (n : Nat) (H : Heap) : Gives Try.prog 48 [.float .f64 b] n H fun v n' H' => (∃ t, v = .bool t) ∧ n' = n ∧ H' = H := by
 refine Gives.of orders ok48 (Nat.le_of_ble_eq_true rfl) ?_
 repeat (first | refine qqn rfl ?_ | ((first | refine qqr ?_ | refine qqt ?_); simp only [SS, qx9, vconv, vun, simprocAttr, ff_48]) | (refine qqj ?_ ?_; focus (simp only [qqs, Nat.reduceEqDiff, ↓reduceIte, ff_48]; done)) | (refine qqk ?_ ?_; focus (simp only [qqs, Nat.reduceEqDiff, ↓reduceIte, ff_48]; done)))
 refine AtCall.by (read_inf n H) ?_
 rintro v n' H' hk ⟨rfl, rfl, rfl⟩
 simp only [SS, qx9, vconv, vun, simprocAttr, ff_48]
 repeat (first | refine qqn rfl ?_ | ((first | refine qqr ?_ | refine qqt ?_); simp only [SS, qx9, vconv, vun, simprocAttr, ff_48]) | (refine qqj ?_ ?_; focus (simp only [qqs, Nat.reduceEqDiff, ↓reduceIte, ff_48]; done)) | (refine qqk ?_ ?_; focus (simp only [qqs, Nat.reduceEqDiff, ↓reduceIte, ff_48]; done)))
 refine AtCall.by (read_ninf _ _) ?_
 rintro v n' H' hk ⟨rfl, rfl, rfl⟩
 simp only [SS, qx9, vconv, vun, simprocAttr, ff_48]
 repeat (first | refine qqn rfl ?_ | ((first | refine qqr ?_ | refine qqt ?_); simp only [SS, qx9, vconv, vun, simprocAttr, ff_48]) | (refine qqj ?_ ?_; focus (simp only [qqs, Nat.reduceEqDiff, ↓reduceIte, ff_48]; done)) | (refine qqk ?_ ?_; focus (simp only [qqs, Nat.reduceEqDiff, ↓reduceIte, ff_48]; done)))
 refine AtCall.by (nan_gives b _ _) ?_
 rintro v n' H' hk ⟨rfl, rfl, rfl⟩
 cases h1 : nanB b
 case true =>
  simp only [SS, qx9, vconv, vun, simprocAttr, ff_48]
  repeat (first | refine qqn rfl ?_ | ((first | refine qqr ?_ | refine qqt ?_); simp only [SS, qx9, vconv, vun, simprocAttr, ff_48]) | (refine qqj ?_ ?_; focus (simp only [qqs, Nat.reduceEqDiff, ↓reduceIte, ff_48]; done)) | (refine qqk ?_ ?_; focus (simp only [qqs, Nat.reduceEqDiff, ↓reduceIte, ff_48]; done)))
  (first | refine WK.retNil ⟨Or.inr rfl, _, rfl, ?_, ?_⟩ | refine WK.skipNil ⟨Or.inl rfl, _, rfl, ?_, ?_⟩)
  ·exact fun _ _ => rfl
  ·simp only [packed, fset_apply, Nat.reduceEqDiff, ↓reduceIte, List.getD_cons_zero, List.getD_cons_succ, ff_48]
   simp
 simp only [SS, qx9, vconv, vun, simprocAttr, ff_48]
 refine AtCall.by (sameB_gives b _ _ _) ?_
 rintro v n' H' hk ⟨rfl, rfl, rfl⟩
 cases h2 : sameB b 9218868437227405312
 case true =>
  simp only [SS, qx9, vconv, vun, simprocAttr, ff_48]
  repeat (first | refine qqn rfl ?_ | ((first | refine qqr ?_ | refine qqt ?_); simp only [SS, qx9, vconv, vun, simprocAttr, ff_48]) | (refine qqj ?_ ?_; focus (simp only [qqs, Nat.reduceEqDiff, ↓reduceIte, ff_48]; done)) | (refine qqk ?_ ?_; focus (simp only [qqs, Nat.reduceEqDiff, ↓reduceIte, ff_48]; done)))
  (first | refine WK.retNil ⟨Or.inr rfl, _, rfl, ?_, ?_⟩ | refine WK.skipNil ⟨Or.inl rfl, _, rfl, ?_, ?_⟩)
  ·exact fun _ _ => rfl
  ·simp only [packed, fset_apply, Nat.reduceEqDiff, ↓reduceIte, List.getD_cons_zero, List.getD_cons_succ, ff_48]
   simp
 simp only [SS, qx9, vconv, vun, simprocAttr, ff_48]
 refine AtCall.by (sameB_gives b _ _ _) ?_
 rintro v n' H' hk ⟨rfl, rfl, rfl⟩
 cases h3 : sameB b 18442240474082181120
 case true =>
  simp only [SS, qx9, vconv, vun, simprocAttr, ff_48]
  repeat (first | refine qqn rfl ?_ | ((first | refine qqr ?_ | refine qqt ?_); simp only [SS, qx9, vconv, vun, simprocAttr, ff_48]) | (refine qqj ?_ ?_; focus (simp only [qqs, Nat.reduceEqDiff, ↓reduceIte, ff_48]; done)) | (refine qqk ?_ ?_; focus (simp only [qqs, Nat.reduceEqDiff, ↓reduceIte, ff_48]; done)))
  (first | refine WK.retNil ⟨Or.inr rfl, _, rfl, ?_, ?_⟩ | refine WK.skipNil ⟨Or.inl rfl, _, rfl, ?_, ?_⟩)
  ·exact fun _ _ => rfl
  ·simp only [packed, fset_apply, Nat.reduceEqDiff, ↓reduceIte, List.getD_cons_zero, List.getD_cons_succ, ff_48]
   simp
 simp only [SS, qx9, vconv, vun, simprocAttr, ff_48]
 repeat (first | refine qqn rfl ?_ | ((first | refine qqr ?_ | refine qqt ?_); simp only [SS, qx9, vconv, vun, simprocAttr, ff_48]) | (refine qqj ?_ ?_; focus (simp only [qqs, Nat.reduceEqDiff, ↓reduceIte, ff_48]; done)) | (refine qqk ?_ ?_; focus (simp only [qqs, Nat.reduceEqDiff, ↓reduceIte, ff_48]; done)))
 refine WK.cut (fun s => ∃ a, s.n = n' ∧ s.H = H' ∧ s.f 7 = .float .f64 a ∧ (Ieee.Format.order Ieee.double a 4741671816366391296 = some .lt → (∀ m e, Ieee.Format.read Ieee.double a = .number true m e → m = 0) ∧ Ieee.Format.read Ieee.double a ≠ .infinity true)) ?_ ?_
 ·by_cases h4 : (FloatKind.f64.format.order b 0 == some .lt) = true
  ·repeat (first | refine qqn rfl ?_ | ((first | refine qqr ?_ | refine qqt ?_); simp only [SS, qx9, vconv, vun, simprocAttr, h4, ff_48]) | (refine qqj ?_ ?_; focus (simp only [qqs, Nat.reduceEqDiff, ↓reduceIte, h4, ff_48]; done)) | (refine qqk ?_ ?_; focus (simp only [qqs, Nat.reduceEqDiff, ↓reduceIte, h4, ff_48]; done)))
   refine WK.skipNil ⟨rfl, b ^^^ 2 ^ 63, rfl, rfl, rfl, fun h => neg_ok hb (by simpa [FloatKind.format] using h4) h⟩
  ·repeat (first | refine qqn rfl ?_ | ((first | refine qqr ?_ | refine qqt ?_); simp only [SS, qx9, vconv, vun, simprocAttr, h4, ff_48]) | (refine qqj ?_ ?_; focus (simp only [qqs, Nat.reduceEqDiff, ↓reduceIte, h4, ff_48]; done)) | (refine qqk ?_ ?_; focus (simp only [qqs, Nat.reduceEqDiff, ↓reduceIte, h4, ff_48]; done)))
   refine WK.skipNil ⟨rfl, b, rfl, rfl, rfl, fun h => pos_ok (by simpa [FloatKind.format] using h4)⟩
 rintro ⟨f, n', H'⟩ ⟨a, rfl, rfl, f7, ha⟩
 simp only at f7
 by_cases h5 : (FloatKind.f64.format.order a 4741671816366391296 == some .lt) = true
 ·have h5' : Ieee.Format.order Ieee.double a 4741671816366391296 = some .lt := by simpa [FloatKind.format] using h5
  obtain ⟨r1, r2, z, e1, e2, e3, e4⟩ := told_ok h5' (ha h5').1 (ha h5').2
  have e1 : FloatKind.f64.format.mul a 4696837146684686336 = some r1 := e1
  have e2 : FloatKind.f64.format.add r1 4602678819172646912 = some r2 := e2
  have e3 : (FloatKind.f64.decode r2).toInt .zero = some z := e3
  have e5 : IntKind.i64.min ≤ z := by show -9223372036854775808 ≤ z; omega
  have e6 : z ≤ IntKind.i64.max := by show z ≤ 9223372036854775807; omega
  repeat (first | refine qqn rfl ?_ | ((first | refine qqr ?_ | refine qqt ?_); simp only [SS, qx9, vconv, vun, simprocAttr, f7, h5, e1, e2, e3, e5, e6, ff_48]) | (refine qqj ?_ ?_; focus (simp only [qqs, Nat.reduceEqDiff, ↓reduceIte, f7, h5, e1, e2, e3, e5, e6, ff_48]; done)) | (refine qqk ?_ ?_; focus (simp only [qqs, Nat.reduceEqDiff, ↓reduceIte, f7, h5, e1, e2, e3, e5, e6, ff_48]; done)))
  refine WK.loop (fun k s => ∃ d : Int, s.n = n' ∧ s.H = H' ∧ s.f 7 = .float .f64 a ∧ s.f 8 = .int .i64 z ∧ s.f 9 = .int .i64 d ∧ -2 ≤ d ∧ d ≤ 3 ∧ (k : Int) = 3 - d) 5 ?_ ?_
  ·exact ⟨-2, rfl, rfl, f7, rfl, rfl, by omega, by omega, by omega⟩
  rintro k ⟨f, n', H'⟩ ⟨d, rfl, rfl, f7, f8, f9, d1, d2, hk⟩ ih
  simp only at f7 f8 f9 ih
  by_cases g1 : d ≤ 2
  ·by_cases g2 : 0 ≤ IntKind.i64.wrap (z + d)
   ·by_cases g3 : IntKind.i64.wrap (z + d) < 1000000000000000
    ·obtain ⟨q, hq⟩ := div_ok (IntKind.i64.wrap (z + d)) (by have := wrap_range (z + d); omega)
     have hq : FloatKind.f64.format.div (FloatKind.f64.nearest (IntKind.i64.wrap (z + d))) 4696837146684686336 = some q := hq
     by_cases g4 : (FloatKind.f64.format.order q a == some .eq) = true
     ·repeat (first | refine qqn rfl ?_ | ((first | refine qqr ?_ | refine qqt ?_); simp only [SS, qx9, vconv, vun, simprocAttr, f7, f8, f9, g1, g2, g3, hq, g4, ff_48]) | (refine qqj ?_ ?_; focus (simp only [qqs, Nat.reduceEqDiff, ↓reduceIte, f7, f8, f9, g1, g2, g3, hq, g4, ff_48]; done)) | (refine qqk ?_ ?_; focus (simp only [qqs, Nat.reduceEqDiff, ↓reduceIte, f7, f8, f9, g1, g2, g3, hq, g4, ff_48]; done)))
      (first | refine WK.retNil ⟨Or.inr rfl, _, rfl, ?_, ?_⟩ | refine WK.skipNil ⟨Or.inl rfl, _, rfl, ?_, ?_⟩)
      ·exact fun _ _ => rfl
      ·simp only [packed, fset_apply, Nat.reduceEqDiff, ↓reduceIte, List.getD_cons_zero, List.getD_cons_succ, ff_48]
       simp
     ·repeat (first | refine qqn rfl ?_ | ((first | refine qqr ?_ | refine qqt ?_); simp only [SS, qx9, vconv, vun, simprocAttr, f7, f8, f9, g1, g2, g3, hq, g4, ff_48]) | (refine qqj ?_ ?_; focus (simp only [qqs, Nat.reduceEqDiff, ↓reduceIte, f7, f8, f9, g1, g2, g3, hq, g4, ff_48]; done)) | (refine qqk ?_ ?_; focus (simp only [qqs, Nat.reduceEqDiff, ↓reduceIte, f7, f8, f9, g1, g2, g3, hq, g4, ff_48]; done)))
      refine ih (k - 1) (by omega) _ ⟨d + 1, rfl, rfl, f7, f8, ?_, by omega, by omega, by omega⟩
      simp only [packed, fset_apply, Nat.reduceEqDiff, ↓reduceIte, List.getD_cons_zero, List.getD_cons_succ, ff_48]
      rw [wrap_in (by omega) (by omega)]
    ·repeat (first | refine qqn rfl ?_ | ((first | refine qqr ?_ | refine qqt ?_); simp only [SS, qx9, vconv, vun, simprocAttr, f7, f8, f9, g1, g2, g3, ff_48]) | (refine qqj ?_ ?_; focus (simp only [qqs, Nat.reduceEqDiff, ↓reduceIte, f7, f8, f9, g1, g2, g3, ff_48]; done)) | (refine qqk ?_ ?_; focus (simp only [qqs, Nat.reduceEqDiff, ↓reduceIte, f7, f8, f9, g1, g2, g3, ff_48]; done)))
     refine ih (k - 1) (by omega) _ ⟨d + 1, rfl, rfl, f7, f8, ?_, by omega, by omega, by omega⟩
     simp only [packed, fset_apply, Nat.reduceEqDiff, ↓reduceIte, List.getD_cons_zero, List.getD_cons_succ, ff_48]
     rw [wrap_in (by omega) (by omega)]
   ·repeat (first | refine qqn rfl ?_ | ((first | refine qqr ?_ | refine qqt ?_); simp only [SS, qx9, vconv, vun, simprocAttr, f7, f8, f9, g1, g2, ff_48]) | (refine qqj ?_ ?_; focus (simp only [qqs, Nat.reduceEqDiff, ↓reduceIte, f7, f8, f9, g1, g2, ff_48]; done)) | (refine qqk ?_ ?_; focus (simp only [qqs, Nat.reduceEqDiff, ↓reduceIte, f7, f8, f9, g1, g2, ff_48]; done)))
    refine ih (k - 1) (by omega) _ ⟨d + 1, rfl, rfl, f7, f8, ?_, by omega, by omega, by omega⟩
    simp only [packed, fset_apply, Nat.reduceEqDiff, ↓reduceIte, List.getD_cons_zero, List.getD_cons_succ, ff_48]
    rw [wrap_in (by omega) (by omega)]
  ·repeat (first | refine qqn rfl ?_ | ((first | refine qqr ?_ | refine qqt ?_); simp only [SS, qx9, vconv, vun, simprocAttr, f7, f8, f9, g1, ff_48]) | (refine qqj ?_ ?_; focus (simp only [qqs, Nat.reduceEqDiff, ↓reduceIte, f7, f8, f9, g1, ff_48]; done)) | (refine qqk ?_ ?_; focus (simp only [qqs, Nat.reduceEqDiff, ↓reduceIte, f7, f8, f9, g1, ff_48]; done)))
   (first | refine WK.retNil ⟨Or.inr rfl, _, rfl, ?_, ?_⟩ | refine WK.skipNil ⟨Or.inl rfl, _, rfl, ?_, ?_⟩)
   ·exact fun _ _ => rfl
   ·simp only [packed, fset_apply, Nat.reduceEqDiff, ↓reduceIte, List.getD_cons_zero, List.getD_cons_succ, ff_48]
    simp
 ·repeat (first | refine qqn rfl ?_ | ((first | refine qqr ?_ | refine qqt ?_); simp only [SS, qx9, vconv, vun, simprocAttr, f7, h5, ff_48]) | (refine qqj ?_ ?_; focus (simp only [qqs, Nat.reduceEqDiff, ↓reduceIte, f7, h5, ff_48]; done)) | (refine qqk ?_ ?_; focus (simp only [qqs, Nat.reduceEqDiff, ↓reduceIte, f7, h5, ff_48]; done)))
  (first | refine WK.retNil ⟨Or.inr rfl, _, rfl, ?_, ?_⟩ | refine WK.skipNil ⟨Or.inl rfl, _, rfl, ?_, ?_⟩)
  ·exact fun _ _ => rfl
  ·simp only [packed, fset_apply, Nat.reduceEqDiff, ↓reduceIte, List.getD_cons_zero, List.getD_cons_succ, ff_48]
   simp
end Go.Proofs.Ytemkglelfeidhaa

namespace Go.Proofs.Ytemkglelfeidhaa
open Go.AM
set_option maxRecDepth 100000
def less : List Int → List Int → Bool
 | a :: x, b :: y => if a = b then less x y else decide (a < b)
 | x, y => decide (x.length < y.length)
theorem less_gives {pa pb : Option Addr} {a b : List Int} {n : Nat} {H : Heap} (ha : RA (Value.int .i64) H pa a) (hb : RA (Value.int .i64) H pb b) (hal : a.length ≤ maxL) :
  Gives Try.prog 33 [.slice pa a.length a.length, .slice pb b.length b.length] n H fun v n' H' => v = .bool (less a b) ∧ n' = n ∧ H' = H := by
 refine Gives.of orders ok33 (Nat.le_of_ble_eq_true rfl) ?_
 repeat (first | refine qqm rfl ?_ | ((first | refine qqr ?_ | refine qqt ?_); simp only [SS, qx42, simprocAttr, ff_33]))
 refine WK.loop (fun k s => ∃ i, s.n = n ∧ s.H = H ∧ s.f 0 = .slice pa a.length a.length ∧ s.f 1 = .slice pb b.length b.length ∧ s.f 5 = .int .i64 (i : Nat) ∧ i ≤ a.length ∧ i ≤ b.length ∧ k = a.length - i ∧ less (a.drop i) (b.drop i) = less a b) a.length ?_ ?_
 ·exact ⟨0, rfl, rfl, rfl, rfl, rfl, Nat.zero_le _, Nat.zero_le _, rfl, rfl⟩
 rintro k ⟨f, n', H'⟩ ⟨i, rfl, rfl, h0, h1, h5, hi1, hi2, rfl, hl⟩ ih
 simp only at h0 h1 h5 ih ha hb
 by_cases hia : i < a.length
 ·by_cases hib : i < b.length
  ·obtain ⟨x, k, cs, ty, own, rfl, hx, ha'⟩ := ha (by intro e; simp [e] at hia)
   obtain ⟨y, l, ds, tz, pwn, rfl, hy, hb'⟩ := hb (by intro e; simp [e] at hib)
   have e1 := ha' i _ (List.getElem?_eq_getElem hia)
   have e2 := hb' i _ (List.getElem?_eq_getElem hib)
   have d1 : a.drop i = a[i] :: a.drop (i + 1) := List.drop_eq_getElem_cons hia
   have d2 : b.drop i = b[i] :: b.drop (i + 1) := List.drop_eq_getElem_cons hib
   by_cases he : a[i] = b[i]
   ·repeat (first | refine qqm rfl ?_ | ((first | refine qqr ?_ | refine qqt ?_); simp only [SS, qx42, simprocAttr, h0, h1, h5, hia, hib, hx, hy, e1, e2, he, ff_33]))
    refine ih (a.length - (i + 1)) (by omega) _ ⟨i + 1, rfl, rfl, h0, h1, ?_, hia, hib, rfl, ?_⟩
    ·simp only [packed, fset_apply, Nat.reduceEqDiff, ↓reduceIte, List.getD_cons_zero, List.getD_cons_succ, ff_33]
     unfold maxL at hal; rw [wrap_in (by omega) (by omega)]; rfl
    ·rw [← hl, d1, d2, less, if_pos he]
   ·repeat (first | refine qqm rfl ?_ | ((first | refine qqr ?_ | refine qqt ?_); simp only [SS, qx42, simprocAttr, h0, h1, h5, hia, hib, hx, hy, e1, e2, he, ff_33]))
    (first | refine WK.retNil ⟨Or.inr rfl, _, rfl, ?_, ?_⟩ | refine WK.skipNil ⟨Or.inl rfl, _, rfl, ?_, ?_⟩)
    ·exact fun _ _ => rfl
    ·simp only [packed, fset_apply, Nat.reduceEqDiff, ↓reduceIte, List.getD_cons_zero, List.getD_cons_succ, ff_33]
     rw [← hl, d1, d2, less, if_neg he]; trivial
  ·repeat (first | refine qqm rfl ?_ | ((first | refine qqr ?_ | refine qqt ?_); simp only [SS, qx42, simprocAttr, h0, h1, h5, hia, hib, ff_33]))
   (first | refine WK.retNil ⟨Or.inr rfl, _, rfl, ?_, ?_⟩ | refine WK.skipNil ⟨Or.inl rfl, _, rfl, ?_, ?_⟩)
   ·exact fun _ _ => rfl
   ·simp only [packed, fset_apply, Nat.reduceEqDiff, ↓reduceIte, List.getD_cons_zero, List.getD_cons_succ, ff_33]
    rw [← hl, List.drop_eq_nil_of_le (show b.length ≤ i by omega)]
    simp [less]; omega
 ·repeat (first | refine qqm rfl ?_ | ((first | refine qqr ?_ | refine qqt ?_); simp only [SS, qx42, simprocAttr, h0, h1, h5, hia, ff_33]))
  (first | refine WK.retNil ⟨Or.inr rfl, _, rfl, ?_, ?_⟩ | refine WK.skipNil ⟨Or.inl rfl, _, rfl, ?_, ?_⟩)
  ·exact fun _ _ => rfl
  ·simp only [packed, fset_apply, Nat.reduceEqDiff, ↓reduceIte, List.getD_cons_zero, List.getD_cons_succ, ff_33]
   rw [← hl, List.drop_eq_nil_of_le (show a.length ≤ i by omega)]
   simp [less]; omega
def same (a b : List Int) : Bool := !less a b && !less b a
theorem same_gives {pa pb : Option Addr} {a b : List Int} {n : Nat} {H : Heap} (ha : RA (Value.int .i64) H pa a) (hb : RA (Value.int .i64) H pb b) (hal : a.length ≤ maxL) (hbl : b.length ≤ maxL) :
  Gives Try.prog 13 [.slice pa a.length a.length, .slice pb b.length b.length] n H fun v n' H' => v = .bool (same a b) ∧ n' = n ∧ H' = H := by
 refine Gives.of orders ok13 (Nat.le_of_ble_eq_true rfl) ?_
 repeat (first | refine qqm rfl ?_ | ((first | refine qqr ?_ | refine qqt ?_); simp only [SS, qg0, vun, tpick, simprocAttr]))
 refine AtCall.by (less_gives ha hb hal) ?_
 rintro v n' H' hk ⟨rfl, rfl, rfl⟩
 cases h1 : less a b
 ·simp only [SS, qg0, vun, tpick, simprocAttr]
  refine AtCall.by (less_gives hb ha hbl) ?_
  rintro v n' H' hk ⟨rfl, rfl, rfl⟩
  simp only [SS, qg0, vun, tpick, simprocAttr]
  repeat (first | refine qqm rfl ?_ | ((first | refine qqr ?_ | refine qqt ?_); simp only [SS, qg0, vun, tpick, simprocAttr]))
  (first | refine WK.retNil ⟨Or.inr rfl, _, rfl, ?_, ?_⟩ | refine WK.skipNil ⟨Or.inl rfl, _, rfl, ?_, ?_⟩)
  ·exact fun _ _ => rfl
  ·simp only [packed, fset_apply, Nat.reduceEqDiff, ↓reduceIte, List.getD_cons_zero, List.getD_cons_succ, same, h1]
   simp
 ·simp only [SS, qg0, vun, tpick, simprocAttr]
  repeat (first | refine qqm rfl ?_ | ((first | refine qqr ?_ | refine qqt ?_); simp only [SS, qg0, vun, tpick, simprocAttr]))
  (first | refine WK.retNil ⟨Or.inr rfl, _, rfl, ?_, ?_⟩ | refine WK.skipNil ⟨Or.inl rfl, _, rfl, ?_, ?_⟩)
  ·exact fun _ _ => rfl
  ·simp only [packed, fset_apply, Nat.reduceEqDiff, ↓reduceIte, List.getD_cons_zero, List.getD_cons_succ, same, h1]
   simp
end Go.Proofs.Ytemkglelfeidhaa
