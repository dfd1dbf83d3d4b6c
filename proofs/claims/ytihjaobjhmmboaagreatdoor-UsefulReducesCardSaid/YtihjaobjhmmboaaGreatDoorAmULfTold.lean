/- A part of a proof. Its conditions: none. -/
import Derived.Test.YtihjaobjhmmboaaGreatDoorAmUFacts
import Derived.Test.YtihjaobjhmmboaaGreatDoorAmC
import Derived.Test.YtihjaobjhmmboaaGreatDoorAmD
import Derived.Test.YtihjaobjhmmboaaGreatDoorAmB
import Derived.Test.YtihjaobjhmmboaaGreatDoorRows
set_option linter.all false
namespace Go.Proofs.YtihjaobjhmmboaaGreatDoor
open Go.AM
set_option maxRecDepth 100000
theorem ext_bits (b : Nat) : aext Tryz.prog 96 [.float .f64 b] = some (.int .u64 b) := by
 have h : (match Tryz.prog.funcs[96]? with | some fn => fn.body.isNone && fn.origin == "" && (fn.name == "math.Float64bits" || fn.name == "internal/strconv.float64bits") | none => false) = true := by kernel_rfl
 unfold aext
 split at h
 ·rename_i fn hf
  simp only [Bool.and_eq_true] at h
  simp [hf, h]
 ·cases h
theorem ext_frombits (b : Int) : aext Tryz.prog 100 [.int .u64 b] = some (.float .f64 b.toNat) := by
 have h : (match Tryz.prog.funcs[100]? with | some fn => fn.body.isNone && fn.origin == "" && fn.name == "math.Float64frombits" | none => false) = true := by kernel_rfl
 unfold aext
 split at h
 ·rename_i fn hf
  simp only [Bool.and_eq_true] at h
  simp [hf, h]
 ·cases h
theorem min52 : min 52 IntKind.u64.bits = 52 := rfl
theorem min12 : min 12 IntKind.u64.bits = 12 := rfl
theorem min63 : min 63 IntKind.u64.bits = 63 := rfl
def expB (b : Nat) : Int := IntKind.u64.wrap (BitVec.ofInt IntKind.u64.bits ((b : Int).fdiv (2 ^ 52)) &&& BitVec.ofInt IntKind.u64.bits 2047).toNat
def nanB (b : Nat) : Bool := decide (expB b = 2047) && !decide (IntKind.u64.wrap ((b : Int) * 2 ^ 12) = 0)
theorem nan_gives (b : Nat) (n : Nat) (H : Heap) : Gives Tryz.prog 82 [.float .f64 b] n H fun v n' H' => v = .bool (nanB b) ∧ n' = n ∧ H' = H := by
 refine Gives.of orders ok82 (Nat.le_of_ble_eq_true rfl) ?_
 have e : IntKind.u64.wrap (BitVec.ofInt IntKind.u64.bits ((b : Int).fdiv (2 ^ 52)) &&& BitVec.ofInt IntKind.u64.bits 2047).toNat = expB b := rfl
 by_cases h1 : expB b = 2047
 ·repeat (first | refine qqm rfl ?_ | ((first | refine qqr ?_ | refine qqt ?_); simp only [SS, qx3, Int.reduceEq, Int.reduceNeg, Nat.reduceGT, Nat.reduceLT, Nat.reduceLeDiff, Nat.reduceEqDiff, ↓reduceIte, reduceCtorEq, Int.reduceToNat, Int.reduceLE, Int.reduceLT, Nat.reduceAdd, Nat.reduceMul, ext_bits, e, h1, min52, min12, ff_82]))
  first | refine qqf ?_ ?_ | refine qqg ?_ ?_
  ·exact fun _ _ => rfl
  ·simp only [packed, qv, Nat.reduceEqDiff, ↓reduceIte, nanB, h1, ff_82]
   simp
 ·repeat (first | refine qqm rfl ?_ | ((first | refine qqr ?_ | refine qqt ?_); simp only [SS, qx3, Int.reduceEq, Int.reduceNeg, Nat.reduceGT, Nat.reduceLT, Nat.reduceLeDiff, Nat.reduceEqDiff, ↓reduceIte, reduceCtorEq, Int.reduceToNat, Int.reduceLE, Int.reduceLT, Nat.reduceAdd, Nat.reduceMul, ext_bits, e, h1, min52, min12, ff_82]))
  first | refine qqf ?_ ?_ | refine qqg ?_ ?_
  ·exact fun _ _ => rfl
  ·simp only [packed, qv, Nat.reduceEqDiff, ↓reduceIte, nanB, h1, ff_82]
   simp
def belowB (b : Nat) : Bool := decide ((b : Int).fdiv (2 ^ 63) = 1)
theorem below_gives (b : Nat) (n : Nat) (H : Heap) : Gives Tryz.prog 111 [.float .f64 b] n H fun v n' H' => v = .bool (belowB b) ∧ n' = n ∧ H' = H := by
 refine Gives.of orders ok111 (Nat.le_of_ble_eq_true rfl) ?_
 repeat (first | refine qqm rfl ?_ | ((first | refine qqr ?_ | refine qqt ?_); simp only [SS, qx19, Int.reduceEq, Int.reduceNeg, Nat.reduceGT, Nat.reduceLT, Nat.reduceLeDiff, Nat.reduceEqDiff, ↓reduceIte, reduceCtorEq, Int.reduceToNat, Int.reduceLE, Int.reduceLT, Nat.reduceAdd, Nat.reduceMul, ext_bits, min63, ff_111]))
 first | refine qqf ?_ ?_ | refine qqg ?_ ?_
 ·exact fun _ _ => rfl
 ·simp only [packed, qv, Nat.reduceEqDiff, ↓reduceIte, belowB, ff_111]
  simp
def lessB (a b : Nat) : Bool :=
 if nanB a || nanB b then !nanB a && nanB b
 else if belowB a != belowB b then belowB a
 else if belowB a then decide (b < a) else decide (a < b)
theorem lessB_gives (a b : Nat) (n : Nat) (H : Heap) : Gives Tryz.prog 102 [.float .f64 a, .float .f64 b] n H fun v n' H' => v = .bool (lessB a b) ∧ n' = n ∧ H' = H := by
 refine Gives.of orders ok102 (Nat.le_of_ble_eq_true rfl) ?_
 repeat (first | refine qqm rfl ?_ | ((first | refine qqr ?_ | refine qqt ?_); simp only [SS, qx3, vun, Int.reduceEq, Int.reduceNeg, Nat.reduceGT, Nat.reduceLT, Nat.reduceLeDiff, Nat.reduceEqDiff, ↓reduceIte, reduceCtorEq, Int.reduceToNat, Int.reduceLE, Int.reduceLT, Nat.reduceAdd, Nat.reduceMul, ff_102]))
 refine AtCall.by (nan_gives a n H) ?_
 rintro v n' H' hk ⟨rfl, rfl, rfl⟩
 cases h1 : nanB a
 ·simp only [SS, qx3, vun, Int.reduceEq, Int.reduceNeg, Nat.reduceGT, Nat.reduceLT, Nat.reduceLeDiff, Nat.reduceEqDiff, ↓reduceIte, reduceCtorEq, Int.reduceToNat, Int.reduceLE, Int.reduceLT, Nat.reduceAdd, Nat.reduceMul, ff_102]
  refine AtCall.by (nan_gives b _ _) ?_
  rintro v n' H' hk ⟨rfl, rfl, rfl⟩
  cases h2 : nanB b
  ·simp only [SS, qx3, vun, Int.reduceEq, Int.reduceNeg, Nat.reduceGT, Nat.reduceLT, Nat.reduceLeDiff, Nat.reduceEqDiff, ↓reduceIte, reduceCtorEq, Int.reduceToNat, Int.reduceLE, Int.reduceLT, Nat.reduceAdd, Nat.reduceMul, ff_102]
   repeat (first | refine qqm rfl ?_ | ((first | refine qqr ?_ | refine qqt ?_); simp only [SS, qx3, vun, Int.reduceEq, Int.reduceNeg, Nat.reduceGT, Nat.reduceLT, Nat.reduceLeDiff, Nat.reduceEqDiff, ↓reduceIte, reduceCtorEq, Int.reduceToNat, Int.reduceLE, Int.reduceLT, Nat.reduceAdd, Nat.reduceMul, ff_102]))
   refine AtCall.by (below_gives a _ _) ?_
   rintro v n' H' hk ⟨rfl, rfl, rfl⟩
   simp only [SS, qx3, vun, Int.reduceEq, Int.reduceNeg, Nat.reduceGT, Nat.reduceLT, Nat.reduceLeDiff, Nat.reduceEqDiff, ↓reduceIte, reduceCtorEq, Int.reduceToNat, Int.reduceLE, Int.reduceLT, Nat.reduceAdd, Nat.reduceMul, ff_102]
   refine AtCall.by (below_gives b _ _) ?_
   rintro v n' H' hk ⟨rfl, rfl, rfl⟩
   cases h3 : belowB a <;> cases h4 : belowB b
   ·simp only [SS, qx3, vun, Int.reduceEq, Int.reduceNeg, Nat.reduceGT, Nat.reduceLT, Nat.reduceLeDiff, Nat.reduceEqDiff, ↓reduceIte, reduceCtorEq, Int.reduceToNat, Int.reduceLE, Int.reduceLT, Nat.reduceAdd, Nat.reduceMul, ff_102]
    repeat (first | refine qqm rfl ?_ | ((first | refine qqr ?_ | refine qqt ?_); simp only [SS, qx3, vun, Int.reduceEq, Int.reduceNeg, Nat.reduceGT, Nat.reduceLT, Nat.reduceLeDiff, Nat.reduceEqDiff, ↓reduceIte, reduceCtorEq, Int.reduceToNat, Int.reduceLE, Int.reduceLT, Nat.reduceAdd, Nat.reduceMul, ff_102]))
    refine AtCall.by (below_gives a _ _) ?_
    rintro v n' H' hk ⟨rfl, rfl, rfl⟩
    simp only [SS, qx3, vun, Int.reduceEq, Int.reduceNeg, Nat.reduceGT, Nat.reduceLT, Nat.reduceLeDiff, Nat.reduceEqDiff, ↓reduceIte, reduceCtorEq, Int.reduceToNat, Int.reduceLE, Int.reduceLT, Nat.reduceAdd, Nat.reduceMul, h3, ff_102]
    repeat (first | refine qqm rfl ?_ | ((first | refine qqr ?_ | refine qqt ?_); simp only [SS, qx3, vun, Int.reduceEq, Int.reduceNeg, Nat.reduceGT, Nat.reduceLT, Nat.reduceLeDiff, Nat.reduceEqDiff, ↓reduceIte, reduceCtorEq, Int.reduceToNat, Int.reduceLE, Int.reduceLT, Nat.reduceAdd, Nat.reduceMul, h3, ext_bits, ff_102]))
    first | refine qqf ?_ ?_ | refine qqg ?_ ?_
    ·exact fun _ _ => rfl
    ·simp only [packed, qv, Nat.reduceEqDiff, ↓reduceIte, lessB, h1, h2, h3, h4, ff_102]
     simp
   ·simp only [SS, qx3, vun, Int.reduceEq, Int.reduceNeg, Nat.reduceGT, Nat.reduceLT, Nat.reduceLeDiff, Nat.reduceEqDiff, ↓reduceIte, reduceCtorEq, Int.reduceToNat, Int.reduceLE, Int.reduceLT, Nat.reduceAdd, Nat.reduceMul, ff_102]
    repeat (first | refine qqm rfl ?_ | ((first | refine qqr ?_ | refine qqt ?_); simp only [SS, qx3, vun, Int.reduceEq, Int.reduceNeg, Nat.reduceGT, Nat.reduceLT, Nat.reduceLeDiff, Nat.reduceEqDiff, ↓reduceIte, reduceCtorEq, Int.reduceToNat, Int.reduceLE, Int.reduceLT, Nat.reduceAdd, Nat.reduceMul, ff_102]))
    refine AtCall.by (below_gives a _ _) ?_
    rintro v n' H' hk ⟨rfl, rfl, rfl⟩
    simp only [SS, qx3, vun, Int.reduceEq, Int.reduceNeg, Nat.reduceGT, Nat.reduceLT, Nat.reduceLeDiff, Nat.reduceEqDiff, ↓reduceIte, reduceCtorEq, Int.reduceToNat, Int.reduceLE, Int.reduceLT, Nat.reduceAdd, Nat.reduceMul, h3, ff_102]
    repeat (first | refine qqm rfl ?_ | ((first | refine qqr ?_ | refine qqt ?_); simp only [SS, qx3, vun, Int.reduceEq, Int.reduceNeg, Nat.reduceGT, Nat.reduceLT, Nat.reduceLeDiff, Nat.reduceEqDiff, ↓reduceIte, reduceCtorEq, Int.reduceToNat, Int.reduceLE, Int.reduceLT, Nat.reduceAdd, Nat.reduceMul, h3, ff_102]))
    first | refine qqf ?_ ?_ | refine qqg ?_ ?_
    ·exact fun _ _ => rfl
    ·simp only [packed, qv, Nat.reduceEqDiff, ↓reduceIte, lessB, h1, h2, h3, h4, ff_102]
     simp
   ·simp only [SS, qx3, vun, Int.reduceEq, Int.reduceNeg, Nat.reduceGT, Nat.reduceLT, Nat.reduceLeDiff, Nat.reduceEqDiff, ↓reduceIte, reduceCtorEq, Int.reduceToNat, Int.reduceLE, Int.reduceLT, Nat.reduceAdd, Nat.reduceMul, ff_102]
    repeat (first | refine qqm rfl ?_ | ((first | refine qqr ?_ | refine qqt ?_); simp only [SS, qx3, vun, Int.reduceEq, Int.reduceNeg, Nat.reduceGT, Nat.reduceLT, Nat.reduceLeDiff, Nat.reduceEqDiff, ↓reduceIte, reduceCtorEq, Int.reduceToNat, Int.reduceLE, Int.reduceLT, Nat.reduceAdd, Nat.reduceMul, ff_102]))
    refine AtCall.by (below_gives a _ _) ?_
    rintro v n' H' hk ⟨rfl, rfl, rfl⟩
    simp only [SS, qx3, vun, Int.reduceEq, Int.reduceNeg, Nat.reduceGT, Nat.reduceLT, Nat.reduceLeDiff, Nat.reduceEqDiff, ↓reduceIte, reduceCtorEq, Int.reduceToNat, Int.reduceLE, Int.reduceLT, Nat.reduceAdd, Nat.reduceMul, h3, ff_102]
    repeat (first | refine qqm rfl ?_ | ((first | refine qqr ?_ | refine qqt ?_); simp only [SS, qx3, vun, Int.reduceEq, Int.reduceNeg, Nat.reduceGT, Nat.reduceLT, Nat.reduceLeDiff, Nat.reduceEqDiff, ↓reduceIte, reduceCtorEq, Int.reduceToNat, Int.reduceLE, Int.reduceLT, Nat.reduceAdd, Nat.reduceMul, h3, ff_102]))
    first | refine qqf ?_ ?_ | refine qqg ?_ ?_
    ·exact fun _ _ => rfl
    ·simp only [packed, qv, Nat.reduceEqDiff, ↓reduceIte, lessB, h1, h2, h3, h4, ff_102]
     simp
   ·simp only [SS, qx3, vun, Int.reduceEq, Int.reduceNeg, Nat.reduceGT, Nat.reduceLT, Nat.reduceLeDiff, Nat.reduceEqDiff, ↓reduceIte, reduceCtorEq, Int.reduceToNat, Int.reduceLE, Int.reduceLT, Nat.reduceAdd, Nat.reduceMul, ff_102]
    repeat (first | refine qqm rfl ?_ | ((first | refine qqr ?_ | refine qqt ?_); simp only [SS, qx3, vun, Int.reduceEq, Int.reduceNeg, Nat.reduceGT, Nat.reduceLT, Nat.reduceLeDiff, Nat.reduceEqDiff, ↓reduceIte, reduceCtorEq, Int.reduceToNat, Int.reduceLE, Int.reduceLT, Nat.reduceAdd, Nat.reduceMul, ff_102]))
    refine AtCall.by (below_gives a _ _) ?_
    rintro v n' H' hk ⟨rfl, rfl, rfl⟩
    simp only [SS, qx3, vun, Int.reduceEq, Int.reduceNeg, Nat.reduceGT, Nat.reduceLT, Nat.reduceLeDiff, Nat.reduceEqDiff, ↓reduceIte, reduceCtorEq, Int.reduceToNat, Int.reduceLE, Int.reduceLT, Nat.reduceAdd, Nat.reduceMul, h3, ff_102]
    repeat (first | refine qqm rfl ?_ | ((first | refine qqr ?_ | refine qqt ?_); simp only [SS, qx3, vun, Int.reduceEq, Int.reduceNeg, Nat.reduceGT, Nat.reduceLT, Nat.reduceLeDiff, Nat.reduceEqDiff, ↓reduceIte, reduceCtorEq, Int.reduceToNat, Int.reduceLE, Int.reduceLT, Nat.reduceAdd, Nat.reduceMul, h3, ext_bits, ff_102]))
    first | refine qqf ?_ ?_ | refine qqg ?_ ?_
    ·exact fun _ _ => rfl
    ·simp only [packed, qv, Nat.reduceEqDiff, ↓reduceIte, lessB, h1, h2, h3, h4, ff_102]
     simp
  ·simp only [SS, qx3, vun, Int.reduceEq, Int.reduceNeg, Nat.reduceGT, Nat.reduceLT, Nat.reduceLeDiff, Nat.reduceEqDiff, ↓reduceIte, reduceCtorEq, Int.reduceToNat, Int.reduceLE, Int.reduceLT, Nat.reduceAdd, Nat.reduceMul, ff_102]
   repeat (first | refine qqm rfl ?_ | ((first | refine qqr ?_ | refine qqt ?_); simp only [SS, qx3, vun, Int.reduceEq, Int.reduceNeg, Nat.reduceGT, Nat.reduceLT, Nat.reduceLeDiff, Nat.reduceEqDiff, ↓reduceIte, reduceCtorEq, Int.reduceToNat, Int.reduceLE, Int.reduceLT, Nat.reduceAdd, Nat.reduceMul, ff_102]))
   refine AtCall.by (nan_gives a _ _) ?_
   rintro v n' H' hk ⟨rfl, rfl, rfl⟩
   simp only [SS, qx3, vun, Int.reduceEq, Int.reduceNeg, Nat.reduceGT, Nat.reduceLT, Nat.reduceLeDiff, Nat.reduceEqDiff, ↓reduceIte, reduceCtorEq, Int.reduceToNat, Int.reduceLE, Int.reduceLT, Nat.reduceAdd, Nat.reduceMul, h1, ff_102]
   refine AtCall.by (nan_gives b _ _) ?_
   rintro v n' H' hk ⟨rfl, rfl, rfl⟩
   simp only [SS, qx3, vun, Int.reduceEq, Int.reduceNeg, Nat.reduceGT, Nat.reduceLT, Nat.reduceLeDiff, Nat.reduceEqDiff, ↓reduceIte, reduceCtorEq, Int.reduceToNat, Int.reduceLE, Int.reduceLT, Nat.reduceAdd, Nat.reduceMul, h2, ff_102]
   repeat (first | refine qqm rfl ?_ | ((first | refine qqr ?_ | refine qqt ?_); simp only [SS, qx3, vun, Int.reduceEq, Int.reduceNeg, Nat.reduceGT, Nat.reduceLT, Nat.reduceLeDiff, Nat.reduceEqDiff, ↓reduceIte, reduceCtorEq, Int.reduceToNat, Int.reduceLE, Int.reduceLT, Nat.reduceAdd, Nat.reduceMul, h1, h2, ff_102]))
   first | refine qqf ?_ ?_ | refine qqg ?_ ?_
   ·exact fun _ _ => rfl
   ·simp only [packed, qv, Nat.reduceEqDiff, ↓reduceIte, lessB, h1, h2, ff_102]
    simp
 ·simp only [SS, qx3, vun, Int.reduceEq, Int.reduceNeg, Nat.reduceGT, Nat.reduceLT, Nat.reduceLeDiff, Nat.reduceEqDiff, ↓reduceIte, reduceCtorEq, Int.reduceToNat, Int.reduceLE, Int.reduceLT, Nat.reduceAdd, Nat.reduceMul, ff_102]
  repeat (first | refine qqm rfl ?_ | ((first | refine qqr ?_ | refine qqt ?_); simp only [SS, qx3, vun, Int.reduceEq, Int.reduceNeg, Nat.reduceGT, Nat.reduceLT, Nat.reduceLeDiff, Nat.reduceEqDiff, ↓reduceIte, reduceCtorEq, Int.reduceToNat, Int.reduceLE, Int.reduceLT, Nat.reduceAdd, Nat.reduceMul, ff_102]))
  refine AtCall.by (nan_gives a _ _) ?_
  rintro v n' H' hk ⟨rfl, rfl, rfl⟩
  simp only [SS, qx3, vun, Int.reduceEq, Int.reduceNeg, Nat.reduceGT, Nat.reduceLT, Nat.reduceLeDiff, Nat.reduceEqDiff, ↓reduceIte, reduceCtorEq, Int.reduceToNat, Int.reduceLE, Int.reduceLT, Nat.reduceAdd, Nat.reduceMul, h1, ff_102]
  repeat (first | refine qqm rfl ?_ | ((first | refine qqr ?_ | refine qqt ?_); simp only [SS, qx3, vun, Int.reduceEq, Int.reduceNeg, Nat.reduceGT, Nat.reduceLT, Nat.reduceLeDiff, Nat.reduceEqDiff, ↓reduceIte, reduceCtorEq, Int.reduceToNat, Int.reduceLE, Int.reduceLT, Nat.reduceAdd, Nat.reduceMul, h1, ff_102]))
  first | refine qqf ?_ ?_ | refine qqg ?_ ?_
  ·exact fun _ _ => rfl
  ·simp only [packed, qv, Nat.reduceEqDiff, ↓reduceIte, lessB, h1, ff_102]
   simp
def sameB (a b : Nat) : Bool := !lessB a b && !lessB b a
theorem sameB_gives (a b : Nat) (n : Nat) (H : Heap) : Gives Tryz.prog 83 [.float .f64 a, .float .f64 b] n H fun v n' H' => v = .bool (sameB a b) ∧ n' = n ∧ H' = H := by
 refine Gives.of orders ok83 (Nat.le_of_ble_eq_true rfl) ?_
 repeat (first | refine qqm rfl ?_ | ((first | refine qqr ?_ | refine qqt ?_); simp only [SS, qg0, vun, tpick, Int.reduceEq, Int.reduceNeg, Nat.reduceGT, Nat.reduceLT, Nat.reduceLeDiff, Nat.reduceEqDiff, ↓reduceIte, reduceCtorEq, Int.reduceToNat, Int.reduceLE, Int.reduceLT, Nat.reduceAdd, Nat.reduceMul]))
 refine AtCall.by (lessB_gives a b n H) ?_
 rintro v n' H' hk ⟨rfl, rfl, rfl⟩
 cases h1 : lessB a b
 ·simp only [SS, qg0, vun, tpick, Int.reduceEq, Int.reduceNeg, Nat.reduceGT, Nat.reduceLT, Nat.reduceLeDiff, Nat.reduceEqDiff, ↓reduceIte, reduceCtorEq, Int.reduceToNat, Int.reduceLE, Int.reduceLT, Nat.reduceAdd, Nat.reduceMul]
  refine AtCall.by (lessB_gives b a _ _) ?_
  rintro v n' H' hk ⟨rfl, rfl, rfl⟩
  simp only [SS, qg0, vun, tpick, Int.reduceEq, Int.reduceNeg, Nat.reduceGT, Nat.reduceLT, Nat.reduceLeDiff, Nat.reduceEqDiff, ↓reduceIte, reduceCtorEq, Int.reduceToNat, Int.reduceLE, Int.reduceLT, Nat.reduceAdd, Nat.reduceMul]
  repeat (first | refine qqm rfl ?_ | ((first | refine qqr ?_ | refine qqt ?_); simp only [SS, qg0, vun, tpick, Int.reduceEq, Int.reduceNeg, Nat.reduceGT, Nat.reduceLT, Nat.reduceLeDiff, Nat.reduceEqDiff, ↓reduceIte, reduceCtorEq, Int.reduceToNat, Int.reduceLE, Int.reduceLT, Nat.reduceAdd, Nat.reduceMul]))
  first | refine qqf ?_ ?_ | refine qqg ?_ ?_
  ·exact fun _ _ => rfl
  ·simp only [packed, qv, Nat.reduceEqDiff, ↓reduceIte, sameB, h1]
   simp
 ·simp only [SS, qg0, vun, tpick, Int.reduceEq, Int.reduceNeg, Nat.reduceGT, Nat.reduceLT, Nat.reduceLeDiff, Nat.reduceEqDiff, ↓reduceIte, reduceCtorEq, Int.reduceToNat, Int.reduceLE, Int.reduceLT, Nat.reduceAdd, Nat.reduceMul]
  repeat (first | refine qqm rfl ?_ | ((first | refine qqr ?_ | refine qqt ?_); simp only [SS, qg0, vun, tpick, Int.reduceEq, Int.reduceNeg, Nat.reduceGT, Nat.reduceLT, Nat.reduceLeDiff, Nat.reduceEqDiff, ↓reduceIte, reduceCtorEq, Int.reduceToNat, Int.reduceLE, Int.reduceLT, Nat.reduceAdd, Nat.reduceMul]))
  first | refine qqf ?_ ?_ | refine qqg ?_ ?_
  ·exact fun _ _ => rfl
  ·simp only [packed, qv, Nat.reduceEqDiff, ↓reduceIte, sameB, h1]
   simp
theorem oks : ∀ g fn c, fns.contains g = true → Tryz.prog.funcs[g]? = some fn → fn.body = some c → FnOK Tryz.prog g fn c := fnOK_of fns_ok
end Go.Proofs.YtihjaobjhmmboaaGreatDoor

namespace Go.Proofs.YtihjaobjhmmboaaGreatDoor
open Go.AM
set_option maxRecDepth 100000
def pows : List Value := Go.Pinned.pow10Rows.flatMap fun x => [.int .u64 x.1, .int .u64 x.2]
def tens : List Value := [.int .u64 1, .int .u64 10, .int .u64 100, .int .u64 1000, .int .u64 10000, .int .u64 100000, .int .u64 1000000, .int .u64 10000000, .int .u64 100000000, .int .u64 1000000000, .int .u64 10000000000, .int .u64 100000000000, .int .u64 1000000000000, .int .u64 10000000000000, .int .u64 100000000000000, .int .u64 1000000000000000, .int .u64 10000000000000000, .int .u64 100000000000000000, .int .u64 1000000000000000000, .int .u64 10000000000000000000]
def G : Heap := fun x => cond (Nat.beq x 4) (.cells pows 179 false)
 (cond (Nat.beq x 3) (.cells tens 168 false)
 (cond (Nat.beq x 1) (.cells [.bool true] 4 false) .dead))
theorem pows_flat : pows.all flat1 = true := by kernel_rfl
theorem tens_flat : tens.all flat1 = true := by kernel_rfl
theorem G_spec (x : Nat) (h : G x ≠ .dead) : x < ngl Tryz.prog ∧ ∃ cs ty, G x = .cells cs ty false ∧ cs.all flat1 = true := by
 have h4 : 4 < ngl Tryz.prog := by exact of_decide_eq_true (by kernel_rfl)
 have h3 : 3 < ngl Tryz.prog := by exact of_decide_eq_true (by kernel_rfl)
 have h2 : 1 < ngl Tryz.prog := by exact of_decide_eq_true (by kernel_rfl)
 unfold G at h ⊢
 cases e4 : Nat.beq x 4 with
 | true => rw [Nat.eq_of_beq_eq_true e4]; exact ⟨h4, _, _, rfl, pows_flat⟩
 | false =>
  simp only [e4, cond_false] at h ⊢
  cases e3 : Nat.beq x 3 with
  | true => rw [Nat.eq_of_beq_eq_true e3]; exact ⟨h3, _, _, rfl, tens_flat⟩
  | false =>
   simp only [e3, cond_false] at h ⊢
   cases e2 : Nat.beq x 1 with
   | true => rw [Nat.eq_of_beq_eq_true e2]; exact ⟨h2, _, _, rfl, rfl⟩
   | false => simp [e2] at h
theorem alive_ev : (evCall Tryz.prog (fun g => fns.contains g) 20000 0 8 [] (ngl Tryz.prog) G).map (·.1) = some (.bool true) := by kernel_rfl
theorem alive_gives (n : Nat) (H : Heap) (hG : ∀ x, G x ≠ .dead → H x = G x) : Gives Tryz.prog 8 [] n H fun v n' H' => v = .bool true ∧ n' = n ∧ H' = H := by
 have h := alive_ev
 cases he : evCall Tryz.prog (fun g => fns.contains g) 20000 0 8 [] (ngl Tryz.prog) G with
 | none => rw [he] at h; cases h
 | some r =>
  obtain ⟨v, n1, H1⟩ := r
  rw [he] at h
  simp only [Option.map_some, Option.some.injEq] at h
  subst h
  obtain ⟨h1, _⟩ := evCall_sound orders oks 20000 _ _ _ _ _ _ _ _ he
  refine ⟨.bool true, n, H, .closed h1 (fun x hx => ?_) (fun x hx => ⟨(G_spec x hx).2, hG x hx⟩), Kp.refl n H, rfl, rfl, rfl⟩
  apply Classical.byContradiction
  intro hd
  have := (G_spec x hd).1
  omega
end Go.Proofs.YtihjaobjhmmboaaGreatDoor

namespace Go.Proofs.YtihjaobjhmmboaaGreatDoor
open Go.AM
set_option maxRecDepth 100000
theorem gTypes : (Tryz.prog.globals[4]?).map (·.type) = some 179 ∧ (Tryz.prog.globals[3]?).map (·.type) = some 168 ∧ (Tryz.prog.globals[1]?).map (·.type) = some 4 := ⟨by kernel_rfl, by kernel_rfl, by kernel_rfl⟩
theorem globs {W : World} {l : List (String × DataW Unit)} (h : laidMet Tryz.prog l W) (hs : W.ShapedOpen Tryz.prog)
    (l1 : ∃ i : Nat, l[i]? = some ("internal/strconv.pow10Tab", Go.Pinned.pow10Tab)) (l2 : ∃ i : Nat, l[i]? = some ("internal/strconv.uint64pow10", Rows.laid_internal_strconv_uint64pow10))
    (l3 : ∃ i : Nat, l[i]? = some ("internal/strconv.optimize", Rows.laid_internal_strconv_optimize)) : Globs Tryz.prog W G := by
  obtain ⟨ps, hl, _, _⟩ := h
  have c4 : ∀ (i : Nat) (v : Value), pows[i]? = some v → W.cell? ⟨4, i, none⟩ = some v := by
    obtain ⟨i, e⟩ := l1
    obtain ⟨g, t, cs, fuel, p, h1, h2, h3, h4⟩ := laid_at hl i _ _ e
    obtain rfl := Option.some.inj ((show Tryz.prog.globalNamed "internal/strconv.pow10Tab" = some 4 by kernel_rfl).symm.trans h1)
    obtain rfl := Option.some.inj (gTypes.1.symm.trans h2)
    have hc : cs.toList = pows := cells_of_pairs (n := 696) (e := 178) (k := .u64) (f0 := ⟨ "hi", 97, 0, false, "", "internal/strconv", 0⟩) (f1 := ⟨ "lo", 97, 1, false, "", "internal/strconv", 8⟩) (by kernel_rfl) (by kernel_rfl) rfl rfl (by kernel_rfl) (by kernel_rfl) (by kernel_rfl) (by kernel_rfl) (by kernel_rfl) (by kernel_rfl) h4
    intro i v e
    rw [World.var?_cell h1 h3 i]
    rw [← hc] at e
    simpa using e
  have c3 : ∀ (i : Nat) (v : Value), tens[i]? = some v → W.cell? ⟨3, i, none⟩ = some v := by
    obtain ⟨i, e⟩ := l2
    obtain ⟨g, t, cs, fuel, p, h1, h2, h3, h4⟩ := laid_at hl i _ _ e
    obtain rfl := Option.some.inj ((show Tryz.prog.globalNamed "internal/strconv.uint64pow10" = some 3 by kernel_rfl).symm.trans h1)
    obtain rfl := Option.some.inj (gTypes.2.1.symm.trans h2)
    have hc : cs.toList = tens := Lib.cells_of_tab (n := 20) (e := 97) (k := .u64) (zs := [1, 10, 100, 1000, 10000, 100000, 1000000, 10000000, 100000000, 1000000000, 10000000000, 100000000000, 1000000000000, 10000000000000, 100000000000000, 1000000000000000, 10000000000000000, 100000000000000000, 1000000000000000000, 10000000000000000000]) (by kernel_rfl) (by kernel_rfl) (by kernel_rfl) (by kernel_rfl) h4
    intro i v e
    rw [World.var?_cell h1 h3 i]
    rw [← hc] at e
    simpa using e
  have c2 : ∀ (i : Nat) (v : Value), [Value.bool true][i]? = some v → W.cell? ⟨1, i, none⟩ = some v := by
    obtain ⟨i, e⟩ := l3
    obtain ⟨g, t, cs, fuel, p, h1, h2, h3, h4⟩ := laid_at hl i _ _ e
    obtain rfl := Option.some.inj ((show Tryz.prog.globalNamed "internal/strconv.optimize" = some 1 by kernel_rfl).symm.trans h1)
    obtain rfl := Option.some.inj (gTypes.2.2.symm.trans h2)
    obtain ⟨b, hc, hd⟩ := DataW.trod_bool (by kernel_rfl) h4
    have hb : b = true := by
      have := congrArg Prod.fst hd
      simp only [Rows.laid_internal_strconv_optimize, DataW.lit.injEq, Lit.bool.injEq] at this
      exact this.symm
    subst hb
    intro i v e
    rw [World.var?_cell h1 h3 i]
    rw [← hc] at e
    simpa using e
  refine ⟨fun x hx => ?_, fun x hx => ?_, ?_, ?_⟩
  · apply Classical.byContradiction
    intro hd
    have := (G_spec x hd).1
    omega
  · unfold G at hx ⊢
    cases e4 : Nat.beq x 4 with
    | true => rw [Nat.eq_of_beq_eq_true e4]; exact ⟨_, _, rfl, pows_flat, c4⟩
    | false =>
      simp only [e4, cond_false] at hx ⊢
      cases e3 : Nat.beq x 3 with
      | true => rw [Nat.eq_of_beq_eq_true e3]; exact ⟨_, _, rfl, tens_flat, c3⟩
      | false =>
        simp only [e3, cond_false] at hx ⊢
        cases e2 : Nat.beq x 1 with
        | true => rw [Nat.eq_of_beq_eq_true e2]; exact ⟨_, _, rfl, rfl, c2⟩
        | false => simp [e2] at hx
  · have hlast : ngl Tryz.prog - 1 < W.heap.size := by
      have hsome : (((begin Tryz.prog (fun _ _ => 0) default).world.heap[ngl Tryz.prog - 1]?).bind Obj.row?).isSome = true := by kernel_rfl
      obtain ⟨⟨z, t⟩, hz⟩ := Option.isSome_iff_exists.1 hsome
      exact heap_of_shaped hs (of_decide_eq_true (by kernel_rfl)) hz
    omega
  · have hsome : (((begin Tryz.prog (fun _ _ => 0) default).world.heap[ngl Tryz.prog - 1]?).bind Obj.row?).isSome = true := by kernel_rfl
    obtain ⟨⟨z, t⟩, hz⟩ := Option.isSome_iff_exists.1 hsome
    have := heap_of_shaped hs (of_decide_eq_true (by kernel_rfl)) hz
    omega
noncomputable def cheats : List Value := Go.Pinned.cheatRows.flatMap fun x => [Value.int .i64 x.1, Value.string ⟨x.2.toArray⟩]
noncomputable def deB32 : List Value := [0, 1, 28, 2, 29, 14, 24, 3, 30, 22, 20, 15, 25, 17, 4, 8, 31, 27, 13, 23, 21, 19, 16, 7, 26, 12, 18, 6, 11, 5, 10, 9].map (Value.int .u8)
noncomputable def deB64 : List Value := [0, 1, 56, 2, 57, 49, 28, 3, 61, 58, 42, 50, 38, 29, 17, 4, 62, 47, 59, 36, 45, 43, 51, 22, 53, 39, 33, 30, 24, 18, 12, 5, 63, 55, 48, 27, 60, 41, 37, 16, 46, 35, 44, 21, 52, 32, 23, 11, 54, 26, 40, 15, 34, 20, 31, 10, 25, 14, 19, 9, 13, 8, 7, 6].map (Value.int .u8)
noncomputable def rest : List Obj := [.cells ((List.range Tryz.prog.types.size).map fun i => .int .u64 i).toArray 0, .map #[] 0, .finalizers #[] none, .cells #[.bool false] 0, .finalizers #[] none]
noncomputable def laidHeap : Array Obj := (([((begin Tryz.prog (fun _ _ => 0) default).world.heap.toList.getD 0 (.map #[] 0)), .cells #[.bool true] 4, ((begin Tryz.prog (fun _ _ => 0) default).world.heap.toList.getD 2 (.map #[] 0)), .cells tens.toArray 168, .cells pows.toArray 179, .cells #[.slice (some ⟨13, 0, none⟩) 61 61] 184, .cells deB32.toArray 140, .cells deB64.toArray 189] : List Obj) ++ (rest ++ [Obj.cells cheats.toArray 183])).toArray
noncomputable def laidWorld (os : Os) : World := { World.settled Tryz.prog os with heap := laidHeap }
theorem laid_world (w : World) (hw : w.heap = laidHeap) : laidMet Tryz.prog Rows.usefulTellsRow.laid w := by
 have hv : ∀ (nm : String) (g : Nat) (cs : List Value) (t : TypeId), Tryz.prog.globalNamed nm = some g → laidHeap[g]? = some (.cells cs.toArray t (0, 0)) → w.var? Tryz.prog nm = some cs.toArray := by
  intro nm g cs t h1 h2
  unfold World.var?
  rw [h1, hw]
  simp [h2]
 have hcheat : ∃ q, DataW.trod (fun _ => ()) Tryz.prog w 0 (fun _ => true) false 4 184 [.slice (some ⟨13, 0, none⟩) 61 61] = some (Go.Pinned.leftcheats, q) ∧ q = MemPlace.row ⟨13, 0, none⟩ 122 := by
  have h1 : DataW.trod (fun _ => ()) Tryz.prog { (default : World) with heap := laidHeap } 0 (fun _ => true) false 4 184 [.slice (some ⟨13, 0, none⟩) 61 61] = some (Go.Pinned.leftcheats, MemPlace.row ⟨13, 0, none⟩ 122) := by kernel_rfl
  exact ⟨_, by rw [← DataW.trod_heap (w := { (default : World) with heap := laidHeap }) (w' := w) hw.symm]; exact h1, rfl⟩
 obtain ⟨q, hq, rfl⟩ := hcheat
 have hpow : DataW.trod (fun _ => ()) Tryz.prog w 0 (fun _ => true) false 3 179 pows.toArray.toList = some (Go.Pinned.pow10Tab, []) :=
  pairs_trod (n := 696) (e := 178) (k := .u64) (f0 := ⟨ "hi", 97, 0, false, "", "internal/strconv", 0⟩) (f1 := ⟨ "lo", 97, 1, false, "", "internal/strconv", 8⟩) (by kernel_rfl) (by kernel_rfl) rfl rfl (by kernel_rfl) (by kernel_rfl) (by kernel_rfl) (by kernel_rfl) (by kernel_rfl) (by kernel_rfl) (by kernel_rfl) (by kernel_rfl)
 refine laidMet_mk (ps := MemPlace.row ⟨6, 0, none⟩ 32 ++ [] ++ (MemPlace.row ⟨7, 0, none⟩ 64 ++ [] ++ (MemPlace.row ⟨1, 0, none⟩ 1 ++ [] ++ (MemPlace.row ⟨3, 0, none⟩ 20 ++ [] ++
  (MemPlace.row ⟨5, 0, none⟩ 1 ++ MemPlace.row ⟨13, 0, none⟩ 122 ++ (MemPlace.row ⟨4, 0, none⟩ 1392 ++ [] ++ [])))))) 1400 [6, 7, 1, 3, 5, 4, 13] ?_ (by kernel_rfl) (by kernel_rfl) ?_
 ·exact ⟨6, 140, deB32.toArray, 2, [], _, by kernel_rfl, by kernel_rfl, hv "math/bits.deBruijn32tab" 6 deB32 140 (by kernel_rfl) rfl, by kernel_rfl, ⟨7, 189, deB64.toArray, 2, [], _, by kernel_rfl, by kernel_rfl, hv "math/bits.deBruijn64tab" 7 deB64 189 (by kernel_rfl) rfl, by kernel_rfl, ⟨1, 4, [.bool true].toArray, 1, [], _, by kernel_rfl, by kernel_rfl, hv "internal/strconv.optimize" 1 [.bool true] 4 (by kernel_rfl) rfl, by kernel_rfl, ⟨3, 168, tens.toArray, 2, [], _, by kernel_rfl, by kernel_rfl, hv "internal/strconv.uint64pow10" 3 tens 168 (by kernel_rfl) rfl, by kernel_rfl, ⟨5, 184, [.slice (some ⟨13, 0, none⟩) 61 61].toArray, 4, _, _, by kernel_rfl, by kernel_rfl, hv "internal/strconv.leftcheats" 5 [.slice (some ⟨13, 0, none⟩) 61 61] 184 (by kernel_rfl) rfl, hq, ⟨4, 179, pows.toArray, 3, [], _, by kernel_rfl, by kernel_rfl, hv "internal/strconv.pow10Tab" 4 pows 179 (by kernel_rfl) rfl, hpow, rfl, rfl⟩, rfl⟩, rfl⟩, rfl⟩, rfl⟩, rfl⟩
 ·intro b hb
  simp only [List.mem_cons, List.mem_nil_iff, or_false] at hb
  rcases hb with rfl | rfl | rfl | rfl | rfl | rfl | rfl
  ·exact ⟨(deB32).toArray, 140, by rw [hw]; rfl, by kernel_rfl⟩
  ·exact ⟨(deB64).toArray, 189, by rw [hw]; rfl, by kernel_rfl⟩
  ·exact ⟨([Value.bool true]).toArray, 4, by rw [hw]; rfl, by kernel_rfl⟩
  ·exact ⟨(tens).toArray, 168, by rw [hw]; rfl, by kernel_rfl⟩
  ·exact ⟨([Value.slice (some ⟨13, 0, none⟩) 61 61]).toArray, 184, by rw [hw]; rfl, by kernel_rfl⟩
  ·exact ⟨(pows).toArray, 179, by rw [hw]; rfl, by kernel_rfl⟩
  ·exact ⟨(cheats).toArray, 183, by rw [hw]; rfl, by kernel_rfl⟩
end Go.Proofs.YtihjaobjhmmboaaGreatDoor

namespace Go.Proofs.YtihjaobjhmmboaaGreatDoor
open Go.AM
set_option maxRecDepth 100000
theorem read_inf (n : Nat) (H : Heap) : Gives Tryz.prog 81 [.string ⟨#[105, 110, 102]⟩] n H fun v n' H' => v = .tuple #[.float .f64 9218868437227405312, .bool true] ∧ n' = n ∧ H' = H :=
 Gives.ev orders oks (k := 50) (by kernel_rfl)
theorem read_ninf (n : Nat) (H : Heap) : Gives Tryz.prog 81 [.string ⟨#[45, 105, 110, 102]⟩] n H fun v n' H' => v = .tuple #[.float .f64 18442240474082181120, .bool true] ∧ n' = n ∧ H' = H :=
 Gives.ev orders oks (k := 50) (by kernel_rfl)
end Go.Proofs.YtihjaobjhmmboaaGreatDoor

namespace Go.Proofs.YtihjaobjhmmboaaGreatDoor
open Go.AM
set_option maxRecDepth 100000
theorem wrap_range (x : Int) : -9223372036854775808 ≤ IntKind.wrap .i64 x ∧ IntKind.wrap .i64 x ≤ 9223372036854775807 := by
 simp only [IntKind.wrap, IntKind.signed, IntKind.bits]
 simp
 omega
def toldB (b : Nat) : Prop := nanB b = true ∨ sameB b 9218868437227405312 = true ∨ sameB b 18442240474082181120 = true ∨ ∃ (m q a : Nat), m < 1000000000000000 ∧ Ieee.Format.div Ieee.double (FloatKind.nearest .f64 (m : Int)) 4696837146684686336 = some q ∧ Ieee.Format.order Ieee.double q a = some .eq ∧ (a = b ∨ (a = b ^^^ 2 ^ 63 ∧ Ieee.Format.order Ieee.double b 0 = some .lt))
theorem told_gives (b : Nat) (hb : b < 2 ^ 64) (n : Nat) (H : Heap) : Gives Tryz.prog 65 [.float .f64 b] n H fun v n' H' => (∃ t, v = .bool t ∧ (t = true → toldB b)) ∧ n' = n ∧ H' = H := by
 refine Gives.of orders ok65 (Nat.le_of_ble_eq_true rfl) ?_
 repeat (first | refine qqn rfl ?_ | ((first | refine qqr ?_ | refine qqt ?_); simp only [SS, qx14, vconv, vun, simprocAttr, ff_65]) | (refine qqj ?_ ?_; focus (simp only [qqs, Nat.reduceEqDiff, ↓reduceIte, ff_65]; done)) | (refine qqk ?_ ?_; focus (simp only [qqs, Nat.reduceEqDiff, ↓reduceIte, ff_65]; done)))
 refine AtCall.by (read_inf n H) ?_
 rintro v n' H' hk ⟨rfl, rfl, rfl⟩
 simp only [SS, qx14, vconv, vun, simprocAttr, ff_65]
 repeat (first | refine qqn rfl ?_ | ((first | refine qqr ?_ | refine qqt ?_); simp only [SS, qx14, vconv, vun, simprocAttr, ff_65]) | (refine qqj ?_ ?_; focus (simp only [qqs, Nat.reduceEqDiff, ↓reduceIte, ff_65]; done)) | (refine qqk ?_ ?_; focus (simp only [qqs, Nat.reduceEqDiff, ↓reduceIte, ff_65]; done)))
 refine AtCall.by (read_ninf _ _) ?_
 rintro v n' H' hk ⟨rfl, rfl, rfl⟩
 simp only [SS, qx14, vconv, vun, simprocAttr, ff_65]
 repeat (first | refine qqn rfl ?_ | ((first | refine qqr ?_ | refine qqt ?_); simp only [SS, qx14, vconv, vun, simprocAttr, ff_65]) | (refine qqj ?_ ?_; focus (simp only [qqs, Nat.reduceEqDiff, ↓reduceIte, ff_65]; done)) | (refine qqk ?_ ?_; focus (simp only [qqs, Nat.reduceEqDiff, ↓reduceIte, ff_65]; done)))
 refine AtCall.by (nan_gives b _ _) ?_
 rintro v n' H' hk ⟨rfl, rfl, rfl⟩
 cases h1 : nanB b
 case true =>
  simp only [SS, qx14, vconv, vun, simprocAttr, ff_65]
  repeat (first | refine qqn rfl ?_ | ((first | refine qqr ?_ | refine qqt ?_); simp only [SS, qx14, vconv, vun, simprocAttr, ff_65]) | (refine qqj ?_ ?_; focus (simp only [qqs, Nat.reduceEqDiff, ↓reduceIte, ff_65]; done)) | (refine qqk ?_ ?_; focus (simp only [qqs, Nat.reduceEqDiff, ↓reduceIte, ff_65]; done)))
  first | refine qqf ?_ ?_ | refine qqg ?_ ?_
  ·exact fun _ _ => rfl
  ·simp only [packed, qv, Nat.reduceEqDiff, ↓reduceIte, ff_65]
   refine ⟨⟨_, rfl, fun _ => .inl h1⟩, ?_⟩
   simp
 simp only [SS, qx14, vconv, vun, simprocAttr, ff_65]
 refine AtCall.by (sameB_gives b _ _ _) ?_
 rintro v n' H' hk ⟨rfl, rfl, rfl⟩
 cases h2 : sameB b 9218868437227405312
 case true =>
  simp only [SS, qx14, vconv, vun, simprocAttr, ff_65]
  repeat (first | refine qqn rfl ?_ | ((first | refine qqr ?_ | refine qqt ?_); simp only [SS, qx14, vconv, vun, simprocAttr, ff_65]) | (refine qqj ?_ ?_; focus (simp only [qqs, Nat.reduceEqDiff, ↓reduceIte, ff_65]; done)) | (refine qqk ?_ ?_; focus (simp only [qqs, Nat.reduceEqDiff, ↓reduceIte, ff_65]; done)))
  first | refine qqf ?_ ?_ | refine qqg ?_ ?_
  ·exact fun _ _ => rfl
  ·simp only [packed, qv, Nat.reduceEqDiff, ↓reduceIte, ff_65]
   refine ⟨⟨_, rfl, fun _ => .inr (.inl h2)⟩, ?_⟩
   simp
 simp only [SS, qx14, vconv, vun, simprocAttr, ff_65]
 refine AtCall.by (sameB_gives b _ _ _) ?_
 rintro v n' H' hk ⟨rfl, rfl, rfl⟩
 cases h3 : sameB b 18442240474082181120
 case true =>
  simp only [SS, qx14, vconv, vun, simprocAttr, ff_65]
  repeat (first | refine qqn rfl ?_ | ((first | refine qqr ?_ | refine qqt ?_); simp only [SS, qx14, vconv, vun, simprocAttr, ff_65]) | (refine qqj ?_ ?_; focus (simp only [qqs, Nat.reduceEqDiff, ↓reduceIte, ff_65]; done)) | (refine qqk ?_ ?_; focus (simp only [qqs, Nat.reduceEqDiff, ↓reduceIte, ff_65]; done)))
  first | refine qqf ?_ ?_ | refine qqg ?_ ?_
  ·exact fun _ _ => rfl
  ·simp only [packed, qv, Nat.reduceEqDiff, ↓reduceIte, ff_65]
   refine ⟨⟨_, rfl, fun _ => .inr (.inr (.inl h3))⟩, ?_⟩
   simp
 simp only [SS, qx14, vconv, vun, simprocAttr, ff_65]
 repeat (first | refine qqn rfl ?_ | ((first | refine qqr ?_ | refine qqt ?_); simp only [SS, qx14, vconv, vun, simprocAttr, ff_65]) | (refine qqj ?_ ?_; focus (simp only [qqs, Nat.reduceEqDiff, ↓reduceIte, ff_65]; done)) | (refine qqk ?_ ?_; focus (simp only [qqs, Nat.reduceEqDiff, ↓reduceIte, ff_65]; done)))
 refine WK.cut (fun s => ∃ a, s.n = n' ∧ s.H = H' ∧ s.f 7 = .float .f64 a ∧ (Ieee.Format.order Ieee.double a 4741671816366391296 = some .lt → (∀ m e, Ieee.Format.read Ieee.double a = .number true m e → m = 0) ∧ Ieee.Format.read Ieee.double a ≠ .infinity true) ∧ (a = b ∨ (a = b ^^^ 2 ^ 63 ∧ Ieee.Format.order Ieee.double b 0 = some .lt))) ?_ ?_
 ·by_cases h4 : (FloatKind.f64.format.order b 0 == some .lt) = true
  ·repeat (first | refine qqn rfl ?_ | ((first | refine qqr ?_ | refine qqt ?_); simp only [SS, qx14, vconv, vun, simprocAttr, h4, ff_65]) | (refine qqj ?_ ?_; focus (simp only [qqs, Nat.reduceEqDiff, ↓reduceIte, h4, ff_65]; done)) | (refine qqk ?_ ?_; focus (simp only [qqs, Nat.reduceEqDiff, ↓reduceIte, h4, ff_65]; done)))
   refine WK.skipNil ⟨rfl, b ^^^ 2 ^ 63, rfl, rfl, rfl, fun h => neg_ok hb (by simpa [FloatKind.format] using h4) h, .inr ⟨rfl, by simpa [FloatKind.format] using h4⟩⟩
  ·repeat (first | refine qqn rfl ?_ | ((first | refine qqr ?_ | refine qqt ?_); simp only [SS, qx14, vconv, vun, simprocAttr, h4, ff_65]) | (refine qqj ?_ ?_; focus (simp only [qqs, Nat.reduceEqDiff, ↓reduceIte, h4, ff_65]; done)) | (refine qqk ?_ ?_; focus (simp only [qqs, Nat.reduceEqDiff, ↓reduceIte, h4, ff_65]; done)))
   refine WK.skipNil ⟨rfl, b, rfl, rfl, rfl, fun h => pos_ok (by simpa [FloatKind.format] using h4), .inl rfl⟩
 rintro ⟨f, n', H'⟩ ⟨a, rfl, rfl, f7, ha, hab⟩
 simp only at f7
 by_cases h5 : (FloatKind.f64.format.order a 4741671816366391296 == some .lt) = true
 ·have h5' : Ieee.Format.order Ieee.double a 4741671816366391296 = some .lt := by simpa [FloatKind.format] using h5
  obtain ⟨r1, r2, z, e1, e2, e3, e4⟩ := told_ok h5' (ha h5').1 (ha h5').2
  have e1 : FloatKind.f64.format.mul a 4696837146684686336 = some r1 := e1
  have e2 : FloatKind.f64.format.add r1 4602678819172646912 = some r2 := e2
  have e3 : (FloatKind.f64.decode r2).toInt .zero = some z := e3
  have e5 : IntKind.i64.min ≤ z := by show -9223372036854775808 ≤ z; omega
  have e6 : z ≤ IntKind.i64.max := by show z ≤ 9223372036854775807; omega
  repeat (first | refine qqn rfl ?_ | ((first | refine qqr ?_ | refine qqt ?_); simp only [SS, qx14, vconv, vun, simprocAttr, f7, h5, e1, e2, e3, e5, e6, ff_65]) | (refine qqj ?_ ?_; focus (simp only [qqs, Nat.reduceEqDiff, ↓reduceIte, f7, h5, e1, e2, e3, e5, e6, ff_65]; done)) | (refine qqk ?_ ?_; focus (simp only [qqs, Nat.reduceEqDiff, ↓reduceIte, f7, h5, e1, e2, e3, e5, e6, ff_65]; done)))
  refine WK.loop (fun k s => ∃ d : Int, s.n = n' ∧ s.H = H' ∧ s.f 7 = .float .f64 a ∧ s.f 8 = .int .i64 z ∧ s.f 9 = .int .i64 d ∧ -2 ≤ d ∧ d ≤ 3 ∧ (k : Int) = 3 - d) 5 ?_ ?_
  ·exact ⟨-2, rfl, rfl, f7, rfl, rfl, by omega, by omega, by omega⟩
  rintro k ⟨f, n', H'⟩ ⟨d, rfl, rfl, f7, f8, f9, d1, d2, hk⟩ ih
  simp only at f7 f8 f9 ih
  by_cases g1 : d ≤ 2
  ·by_cases g2 : 0 ≤ IntKind.i64.wrap (z + d)
   ·by_cases g3 : IntKind.i64.wrap (z + d) < 1000000000000000
    ·obtain ⟨q, hq⟩ := div_ok (IntKind.i64.wrap (z + d)) (by have := wrap_range (z + d); omega)
     have hq : FloatKind.f64.format.div (FloatKind.f64.nearest (IntKind.i64.wrap (z + d))) 4696837146684686336 = some q := hq
     by_cases g4 : (FloatKind.f64.format.order q a == some .eq) = true
     ·repeat (first | refine qqn rfl ?_ | ((first | refine qqr ?_ | refine qqt ?_); simp only [SS, qx14, vconv, vun, simprocAttr, f7, f8, f9, g1, g2, g3, hq, g4, ff_65]) | (refine qqj ?_ ?_; focus (simp only [qqs, Nat.reduceEqDiff, ↓reduceIte, f7, f8, f9, g1, g2, g3, hq, g4, ff_65]; done)) | (refine qqk ?_ ?_; focus (simp only [qqs, Nat.reduceEqDiff, ↓reduceIte, f7, f8, f9, g1, g2, g3, hq, g4, ff_65]; done)))
      first | refine qqf ?_ ?_ | refine qqg ?_ ?_
      ·exact fun _ _ => rfl
      ·simp only [packed, qv, Nat.reduceEqDiff, ↓reduceIte, ff_65]
       refine ⟨⟨_, rfl, fun _ => .inr (.inr (.inr ⟨(IntKind.i64.wrap (z + d)).toNat, q, a, by omega, by rw [Int.toNat_of_nonneg g2]; exact hq, by simpa [FloatKind.format] using g4, hab⟩))⟩, ?_⟩
       simp
     ·repeat (first | refine qqn rfl ?_ | ((first | refine qqr ?_ | refine qqt ?_); simp only [SS, qx14, vconv, vun, simprocAttr, f7, f8, f9, g1, g2, g3, hq, g4, ff_65]) | (refine qqj ?_ ?_; focus (simp only [qqs, Nat.reduceEqDiff, ↓reduceIte, f7, f8, f9, g1, g2, g3, hq, g4, ff_65]; done)) | (refine qqk ?_ ?_; focus (simp only [qqs, Nat.reduceEqDiff, ↓reduceIte, f7, f8, f9, g1, g2, g3, hq, g4, ff_65]; done)))
      refine ih (k - 1) (by omega) _ ⟨d + 1, rfl, rfl, f7, f8, ?_, by omega, by omega, by omega⟩
      simp only [packed, qv, Nat.reduceEqDiff, ↓reduceIte, ff_65]
      rw [wrap_in (by omega) (by omega)]
    ·repeat (first | refine qqn rfl ?_ | ((first | refine qqr ?_ | refine qqt ?_); simp only [SS, qx14, vconv, vun, simprocAttr, f7, f8, f9, g1, g2, g3, ff_65]) | (refine qqj ?_ ?_; focus (simp only [qqs, Nat.reduceEqDiff, ↓reduceIte, f7, f8, f9, g1, g2, g3, ff_65]; done)) | (refine qqk ?_ ?_; focus (simp only [qqs, Nat.reduceEqDiff, ↓reduceIte, f7, f8, f9, g1, g2, g3, ff_65]; done)))
     refine ih (k - 1) (by omega) _ ⟨d + 1, rfl, rfl, f7, f8, ?_, by omega, by omega, by omega⟩
     simp only [packed, qv, Nat.reduceEqDiff, ↓reduceIte, ff_65]
     rw [wrap_in (by omega) (by omega)]
   ·repeat (first | refine qqn rfl ?_ | ((first | refine qqr ?_ | refine qqt ?_); simp only [SS, qx14, vconv, vun, simprocAttr, f7, f8, f9, g1, g2, ff_65]) | (refine qqj ?_ ?_; focus (simp only [qqs, Nat.reduceEqDiff, ↓reduceIte, f7, f8, f9, g1, g2, ff_65]; done)) | (refine qqk ?_ ?_; focus (simp only [qqs, Nat.reduceEqDiff, ↓reduceIte, f7, f8, f9, g1, g2, ff_65]; done)))
    refine ih (k - 1) (by omega) _ ⟨d + 1, rfl, rfl, f7, f8, ?_, by omega, by omega, by omega⟩
    simp only [packed, qv, Nat.reduceEqDiff, ↓reduceIte, ff_65]
    rw [wrap_in (by omega) (by omega)]
  ·repeat (first | refine qqn rfl ?_ | ((first | refine qqr ?_ | refine qqt ?_); simp only [SS, qx14, vconv, vun, simprocAttr, f7, f8, f9, g1, ff_65]) | (refine qqj ?_ ?_; focus (simp only [qqs, Nat.reduceEqDiff, ↓reduceIte, f7, f8, f9, g1, ff_65]; done)) | (refine qqk ?_ ?_; focus (simp only [qqs, Nat.reduceEqDiff, ↓reduceIte, f7, f8, f9, g1, ff_65]; done)))
   first | refine qqf ?_ ?_ | refine qqg ?_ ?_
   ·exact fun _ _ => rfl
   ·simp only [packed, qv, Nat.reduceEqDiff, ↓reduceIte, ff_65]
    refine ⟨⟨_, rfl, fun h => by cases h⟩, ?_⟩
    simp
 ·repeat (first | refine qqn rfl ?_ | ((first | refine qqr ?_ | refine qqt ?_); simp only [SS, qx14, vconv, vun, simprocAttr, f7, h5, ff_65]) | (refine qqj ?_ ?_; focus (simp only [qqs, Nat.reduceEqDiff, ↓reduceIte, f7, h5, ff_65]; done)) | (refine qqk ?_ ?_; focus (simp only [qqs, Nat.reduceEqDiff, ↓reduceIte, f7, h5, ff_65]; done)))
  first | refine qqf ?_ ?_ | refine qqg ?_ ?_
  ·exact fun _ _ => rfl
  ·simp only [packed, qv, Nat.reduceEqDiff, ↓reduceIte, ff_65]
   refine ⟨⟨_, rfl, fun h => by cases h⟩, ?_⟩
   simp
end Go.Proofs.YtihjaobjhmmboaaGreatDoor
