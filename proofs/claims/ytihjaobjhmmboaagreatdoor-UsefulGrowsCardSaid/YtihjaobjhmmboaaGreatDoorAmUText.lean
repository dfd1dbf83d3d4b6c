/- A part of a proof. Its conditions: none. -/
import Derived.Test.YtihjaobjhmmboaaGreatDoorAmUMul
import Derived.Test.YtihjaobjhmmboaaGreatDoorAmD
import Derived.Test.YtihjaobjhmmboaaGreatDoorAmUFtoa
set_option linter.all false
namespace Go.Proofs.YtihjaobjhmmboaaGreatDoor
open Go.AM
set_option maxRecDepth 100000
def realB (b : Nat) : Bool := FloatKind.f64.format.order b b == some .eq
def keyZ (b : Nat) : Int :=
 if realB b = true then (if (b : Int).fdiv (2 ^ 63) = 1 then IntKind.u64.wrap (BitVec.ofInt IntKind.u64.bits (if IntKind.u64.signed = true then -1 else IntKind.u64.max) ^^^ BitVec.ofInt IntKind.u64.bits (b : Int)).toNat
  else IntKind.u64.wrap (BitVec.ofInt IntKind.u64.bits (b : Int) ||| BitVec.ofInt IntKind.u64.bits 9223372036854775808).toNat)
 else 18446744073709551615
theorem bne_realB (b : Nat) : (FloatKind.f64.format.order b b != some .eq) = !realB b := rfl
theorem key_gives (b : Nat) (n : Nat) (H : Heap) : Gives Tryz.prog 76 [.float .f64 b] n H fun v n' H' => v = .int .u64 (keyZ b) ∧ n' = n ∧ H' = H := by
 refine Gives.of orders ok76 (Nat.le_of_ble_eq_true rfl) ?_
 cases h1 : realB b
 ·repeat (first | apply WK.seq | apply WK.block | apply WK.skipSeq | apply WK.skipBlock | apply WK.retSeq | apply WK.retBlock | apply WK.exitSeq | apply WK.exitHere | refine WK.exitOn rfl ?_ | ((first | (refine WK.rgn ?_ ?_; kernel_rfl) | refine AtCall.now ?_); simp (config := { maxSteps := 1000000 }) only [SS, qx6, forall_const, vun, Int.reduceEq, Int.reduceNeg, Nat.reduceGT, Nat.reduceLT, Nat.reduceLeDiff, Nat.reduceEqDiff, ↓reduceIte, reduceCtorEq, Int.reduceToNat, Int.reduceLE, Int.reduceLT, Nat.reduceAdd, Nat.reduceMul, bne_realB, h1, Bool.not_false, ff_76]) | (refine WK.condT ?_ ?_; focus (simp only [ev_tmp, ev_const, fset_apply, Nat.reduceEqDiff, ↓reduceIte, decide_true, decide_false, bne_realB, h1, Bool.not_false, ff_76]; done)) | (refine WK.condF ?_ ?_; focus (simp only [ev_tmp, ev_const, fset_apply, Nat.reduceEqDiff, ↓reduceIte, decide_true, decide_false, bne_realB, h1, Bool.not_false, ff_76]; done)))
  (first | refine WK.retNil ⟨Or.inr rfl, _, rfl, ?_, ?_⟩ | refine WK.skipNil ⟨Or.inl rfl, _, rfl, ?_, ?_⟩)
  ·exact fun _ _ => rfl
  ·simp only [packed, fset_apply, Nat.reduceEqDiff, ↓reduceIte, List.getD_cons_zero, List.getD_cons_succ, keyZ, h1, ff_76]
   simp
 ·by_cases h2 : (b : Int).fdiv (2 ^ 63) = 1
  ·repeat (first | apply WK.seq | apply WK.block | apply WK.skipSeq | apply WK.skipBlock | apply WK.retSeq | apply WK.retBlock | apply WK.exitSeq | apply WK.exitHere | refine WK.exitOn rfl ?_ | ((first | (refine WK.rgn ?_ ?_; kernel_rfl) | refine AtCall.now ?_); simp (config := { maxSteps := 1000000 }) only [SS, qx6, forall_const, vun, Int.reduceEq, Int.reduceNeg, Nat.reduceGT, Nat.reduceLT, Nat.reduceLeDiff, Nat.reduceEqDiff, ↓reduceIte, reduceCtorEq, Int.reduceToNat, Int.reduceLE, Int.reduceLT, Nat.reduceAdd, Nat.reduceMul, bne_realB, h1, Bool.not_true, ext_bits, min63, h2, ff_76]) | (refine WK.condT ?_ ?_; focus (simp only [ev_tmp, ev_const, fset_apply, Nat.reduceEqDiff, ↓reduceIte, decide_true, decide_false, bne_realB, h1, Bool.not_true, ext_bits, min63, h2, ff_76]; done)) | (refine WK.condF ?_ ?_; focus (simp only [ev_tmp, ev_const, fset_apply, Nat.reduceEqDiff, ↓reduceIte, decide_true, decide_false, bne_realB, h1, Bool.not_true, ext_bits, min63, h2, ff_76]; done)))
   (first | refine WK.retNil ⟨Or.inr rfl, _, rfl, ?_, ?_⟩ | refine WK.skipNil ⟨Or.inl rfl, _, rfl, ?_, ?_⟩)
   ·exact fun _ _ => rfl
   ·simp only [packed, fset_apply, Nat.reduceEqDiff, ↓reduceIte, List.getD_cons_zero, List.getD_cons_succ, keyZ, h1, h2, ff_76]
    simp
  ·repeat (first | apply WK.seq | apply WK.block | apply WK.skipSeq | apply WK.skipBlock | apply WK.retSeq | apply WK.retBlock | apply WK.exitSeq | apply WK.exitHere | refine WK.exitOn rfl ?_ | ((first | (refine WK.rgn ?_ ?_; kernel_rfl) | refine AtCall.now ?_); simp (config := { maxSteps := 1000000 }) only [SS, qx6, forall_const, vun, Int.reduceEq, Int.reduceNeg, Nat.reduceGT, Nat.reduceLT, Nat.reduceLeDiff, Nat.reduceEqDiff, ↓reduceIte, reduceCtorEq, Int.reduceToNat, Int.reduceLE, Int.reduceLT, Nat.reduceAdd, Nat.reduceMul, bne_realB, h1, Bool.not_true, ext_bits, min63, h2, ff_76]) | (refine WK.condT ?_ ?_; focus (simp only [ev_tmp, ev_const, fset_apply, Nat.reduceEqDiff, ↓reduceIte, decide_true, decide_false, bne_realB, h1, Bool.not_true, ext_bits, min63, h2, ff_76]; done)) | (refine WK.condF ?_ ?_; focus (simp only [ev_tmp, ev_const, fset_apply, Nat.reduceEqDiff, ↓reduceIte, decide_true, decide_false, bne_realB, h1, Bool.not_true, ext_bits, min63, h2, ff_76]; done)))
   (first | refine WK.retNil ⟨Or.inr rfl, _, rfl, ?_, ?_⟩ | refine WK.skipNil ⟨Or.inl rfl, _, rfl, ?_, ?_⟩)
   ·exact fun _ _ => rfl
   ·simp only [packed, fset_apply, Nat.reduceEqDiff, ↓reduceIte, List.getD_cons_zero, List.getD_cons_succ, keyZ, h1, h2, ff_76]
    simp
theorem keysame_gives (a b : Nat) (n : Nat) (H : Heap) : Gives Tryz.prog 58 [.float .f64 a, .float .f64 b] n H fun v n' H' => v = .bool (decide (keyZ a = keyZ b)) ∧ n' = n ∧ H' = H := by
 refine Gives.of orders ok58 (Nat.le_of_ble_eq_true rfl) ?_
 repeat (first | apply WK.seq | apply WK.block | apply WK.skipSeq | apply WK.skipBlock | apply WK.retSeq | apply WK.retBlock | apply WK.exitSeq | apply WK.exitHere | refine WK.exitOn rfl ?_ | ((first | (refine WK.rgn ?_ ?_; kernel_rfl) | refine AtCall.now ?_); simp (config := { maxSteps := 1000000 }) only [SS, qx6, forall_const, Int.reduceEq, Int.reduceNeg, Nat.reduceGT, Nat.reduceLT, Nat.reduceLeDiff, Nat.reduceEqDiff, ↓reduceIte, reduceCtorEq, Int.reduceToNat, Int.reduceLE, Int.reduceLT, Nat.reduceAdd, Nat.reduceMul, ff_58]) | (refine WK.condT ?_ ?_; focus (simp only [ev_tmp, ev_const, fset_apply, Nat.reduceEqDiff, ↓reduceIte, decide_true, decide_false, ff_58]; done)) | (refine WK.condF ?_ ?_; focus (simp only [ev_tmp, ev_const, fset_apply, Nat.reduceEqDiff, ↓reduceIte, decide_true, decide_false, ff_58]; done)))
 refine AtCall.by (key_gives a _ _) ?_
 rintro v n' H' hk ⟨rfl, rfl, rfl⟩
 simp (config := { maxSteps := 1000000 }) only [SS, qx6, forall_const, Int.reduceEq, Int.reduceNeg, Nat.reduceGT, Nat.reduceLT, Nat.reduceLeDiff, Nat.reduceEqDiff, ↓reduceIte, reduceCtorEq, Int.reduceToNat, Int.reduceLE, Int.reduceLT, Nat.reduceAdd, Nat.reduceMul, ff_58]
 refine AtCall.by (key_gives b _ _) ?_
 rintro v n' H' hk ⟨rfl, rfl, rfl⟩
 simp (config := { maxSteps := 1000000 }) only [SS, qx6, forall_const, Int.reduceEq, Int.reduceNeg, Nat.reduceGT, Nat.reduceLT, Nat.reduceLeDiff, Nat.reduceEqDiff, ↓reduceIte, reduceCtorEq, Int.reduceToNat, Int.reduceLE, Int.reduceLT, Nat.reduceAdd, Nat.reduceMul, ff_58]
 repeat (first | apply WK.seq | apply WK.block | apply WK.skipSeq | apply WK.skipBlock | apply WK.retSeq | apply WK.retBlock | apply WK.exitSeq | apply WK.exitHere | refine WK.exitOn rfl ?_ | ((first | (refine WK.rgn ?_ ?_; kernel_rfl) | refine AtCall.now ?_); simp (config := { maxSteps := 1000000 }) only [SS, qx6, forall_const, Int.reduceEq, Int.reduceNeg, Nat.reduceGT, Nat.reduceLT, Nat.reduceLeDiff, Nat.reduceEqDiff, ↓reduceIte, reduceCtorEq, Int.reduceToNat, Int.reduceLE, Int.reduceLT, Nat.reduceAdd, Nat.reduceMul, ff_58]) | (refine WK.condT ?_ ?_; focus (simp only [ev_tmp, ev_const, fset_apply, Nat.reduceEqDiff, ↓reduceIte, decide_true, decide_false, ff_58]; done)) | (refine WK.condF ?_ ?_; focus (simp only [ev_tmp, ev_const, fset_apply, Nat.reduceEqDiff, ↓reduceIte, decide_true, decide_false, ff_58]; done)))
 (first | refine WK.retNil ⟨Or.inr rfl, _, rfl, ?_, ?_⟩ | refine WK.skipNil ⟨Or.inl rfl, _, rfl, ?_, ?_⟩)
 ·exact fun _ _ => rfl
 ·simp only [packed, fset_apply, Nat.reduceEqDiff, ↓reduceIte, List.getD_cons_zero, List.getD_cons_succ, ff_58]
  simp
theorem expB_eq {b : Nat} (hb : b < 18446744073709551616) : expB b = ((b / 2 ^ 52 % 2048 : Nat) : Int) := by
 unfold expB
 rw [shr_nat]
 have h := and_u64 (b / 2 ^ 52) 2047 (by omega) (by omega)
 have h' : IntKind.u64.wrap (BitVec.ofInt IntKind.u64.bits ((b / 2 ^ 52 : Nat) : Int) &&& BitVec.ofInt IntKind.u64.bits 2047).toNat = ((b / 2 ^ 52 &&& 2047 : Nat) : Int) := h
 rw [h', show (2047 : Nat) = 2 ^ 11 - 1 by rfl, and_mask]
theorem nanB_eq {b : Nat} (hb : b < 18446744073709551616) : nanB b = decide (b % 9223372036854775808 > 9218868437227405312) := by
 unfold nanB
 rw [expB_eq hb, wrap_u64]
 have e1 : decide (((b / 2 ^ 52 % 2048 : Nat) : Int) = 2047) = decide (b / 2 ^ 52 % 2048 = 2047) := by simp only [decide_eq_decide]; omega
 have e2 : (!decide ((b : Int) * 2 ^ 12 % 18446744073709551616 = 0)) = decide (b % 2 ^ 52 ≠ 0) := by
  rw [← decide_not, decide_eq_decide]; omega
 rw [e1, e2, ← Bool.decide_and, decide_eq_decide]
 omega
open Ieee in
theorem read_word {b : Nat} : Format.read double b = (if b % 9223372036854775808 < 4503599627370496 then .number (b / 9223372036854775808 % 2 == 1) (b % 9223372036854775808) (-1074) else
  if b % 9223372036854775808 < 9218868437227405312 then .number (b / 9223372036854775808 % 2 == 1) (4503599627370496 + b % 9223372036854775808 % 4503599627370496) (-1074 + (b % 9223372036854775808 / 4503599627370496 - 1 : Nat)) else
  if b % 9223372036854775808 = 9218868437227405312 then .infinity (b / 9223372036854775808 % 2 == 1) else .nan (b / 9223372036854775808 % 2 == 1) (b % 9223372036854775808 - 9218868437227405312)) := rfl
theorem realB_eq {b : Nat} (hb : b < 18446744073709551616) : realB b = !nanB b := by
 rw [nanB_eq hb]
 unfold realB
 simp only [FloatKind.format, Ieee.Format.order, read_word]
 by_cases h1 : b % 9223372036854775808 < 4503599627370496
 ·simp only [h1, if_true, Ieee.Datum.order, Int.min_self, Int.sub_self]
  have : ¬ (b % 9223372036854775808 > 9218868437227405312) := by omega
  simp [this, compare, compareOfLessAndEq]
 ·by_cases h2 : b % 9223372036854775808 < 9218868437227405312
  ·simp only [h1, h2, if_true, if_false, Ieee.Datum.order, Int.min_self, Int.sub_self]
   have : ¬ (b % 9223372036854775808 > 9218868437227405312) := by omega
   simp [this, compare, compareOfLessAndEq]
  ·by_cases h3 : b % 9223372036854775808 = 9218868437227405312
   ·simp only [h1, h2, h3, if_true, if_false, Ieee.Datum.order]
    simp [compare, compareOfLessAndEq]
   ·simp only [h1, h2, h3, if_false, Ieee.Datum.order]
    have : b % 9223372036854775808 > 9218868437227405312 := by omega
    simp [this]
end Go.Proofs.YtihjaobjhmmboaaGreatDoor

namespace Go.Proofs.YtihjaobjhmmboaaGreatDoor
open Go.AM Ieee
set_option maxRecDepth 100000
def maxW : Nat := 9218868437227405311
theorem isinf1_gives (b : Nat) (n : Nat) (H : Heap) : Gives Tryz.prog 78 [.float .f64 b, .int .i64 1] n H fun v n' H' => v = .bool (FloatKind.f64.format.order b maxW == some .gt) ∧ n' = n ∧ H' = H := by
 refine Gives.of orders ok78 (Nat.le_of_ble_eq_true rfl) ?_
 have z1 : ((1 : Int) = 0) = False := by simp
 have z2 : ((1 : Int) < 0) = False := by simp
 repeat (first | apply WK.seq | apply WK.block | apply WK.skipSeq | apply WK.skipBlock | apply WK.retSeq | apply WK.retBlock | apply WK.exitSeq | apply WK.exitHere | refine WK.exitOn rfl ?_ | ((first | (refine WK.rgn ?_ ?_; kernel_rfl) | refine AtCall.now ?_); simp (config := { maxSteps := 1000000 }) only [SS, qx6, forall_const, vun, Int.reduceEq, Int.reduceNeg, Nat.reduceGT, Nat.reduceLT, Nat.reduceLeDiff, Nat.reduceEqDiff, ↓reduceIte, reduceCtorEq, Int.reduceToNat, Int.reduceLE, Int.reduceLT, Nat.reduceAdd, Nat.reduceMul, z1, z2, ff_78]) | (refine WK.condT ?_ ?_; focus (simp only [ev_tmp, ev_const, fset_apply, Nat.reduceEqDiff, ↓reduceIte, decide_true, decide_false, z1, z2, ff_78]; done)) | (refine WK.condF ?_ ?_; focus (simp only [ev_tmp, ev_const, fset_apply, Nat.reduceEqDiff, ↓reduceIte, decide_true, decide_false, z1, z2, ff_78]; done)))
 (first | refine WK.retNil ⟨Or.inr rfl, _, rfl, ?_, ?_⟩ | refine WK.skipNil ⟨Or.inl rfl, _, rfl, ?_, ?_⟩)
 ·exact fun _ _ => rfl
 ·simp only [packed, fset_apply, Nat.reduceEqDiff, ↓reduceIte, List.getD_cons_zero, List.getD_cons_succ, ff_78]
  exact ⟨rfl, trivial, trivial⟩
theorem isinf2_gives (b : Nat) (n : Nat) (H : Heap) : Gives Tryz.prog 78 [.float .f64 b, .int .i64 (-1)] n H fun v n' H' => v = .bool (FloatKind.f64.format.order (Op.negFloat .f64 b) maxW == some .gt) ∧ n' = n ∧ H' = H := by
 refine Gives.of orders ok78 (Nat.le_of_ble_eq_true rfl) ?_
 have z1 : ((-1 : Int) = 0) = False := by simp
 have z2 : ((-1 : Int) < 0) = True := by simp
 repeat (first | apply WK.seq | apply WK.block | apply WK.skipSeq | apply WK.skipBlock | apply WK.retSeq | apply WK.retBlock | apply WK.exitSeq | apply WK.exitHere | refine WK.exitOn rfl ?_ | ((first | (refine WK.rgn ?_ ?_; kernel_rfl) | refine AtCall.now ?_); simp (config := { maxSteps := 1000000 }) only [SS, qx6, forall_const, vun, Int.reduceEq, Int.reduceNeg, Nat.reduceGT, Nat.reduceLT, Nat.reduceLeDiff, Nat.reduceEqDiff, ↓reduceIte, reduceCtorEq, Int.reduceToNat, Int.reduceLE, Int.reduceLT, Nat.reduceAdd, Nat.reduceMul, z1, z2, ff_78]) | (refine WK.condT ?_ ?_; focus (simp only [ev_tmp, ev_const, fset_apply, Nat.reduceEqDiff, ↓reduceIte, decide_true, decide_false, z1, z2, ff_78]; done)) | (refine WK.condF ?_ ?_; focus (simp only [ev_tmp, ev_const, fset_apply, Nat.reduceEqDiff, ↓reduceIte, decide_true, decide_false, z1, z2, ff_78]; done)))
 (first | refine WK.retNil ⟨Or.inr rfl, _, rfl, ?_, ?_⟩ | refine WK.skipNil ⟨Or.inl rfl, _, rfl, ?_, ?_⟩)
 ·exact fun _ _ => rfl
 ·simp only [packed, fset_apply, Nat.reduceEqDiff, ↓reduceIte, List.getD_cons_zero, List.getD_cons_succ, ff_78]
  exact ⟨rfl, trivial, trivial⟩
set_option maxHeartbeats 2000000 in
theorem text_nan (b : Nat) (h : realB b = false) (n : Nat) (H : Heap) : Gives Tryz.prog 60 [.float .f64 b] n H fun v n' H' => v = .string ⟨#[110, 97, 110]⟩ ∧ n' = n ∧ H' = H := by
 refine Gives.of orders ok60 (Nat.le_of_ble_eq_true rfl) ?_
 repeat (first | apply WK.seq | apply WK.block | apply WK.skipSeq | apply WK.skipBlock | apply WK.retSeq | apply WK.retBlock | apply WK.exitSeq | apply WK.exitHere | refine WK.exitOn rfl ?_ | ((first | (refine WK.rgn ?_ ?_; kernel_rfl) | refine AtCall.now ?_); simp (config := { maxSteps := 1000000 }) only [SS, qx6, forall_const, Int.reduceEq, Int.reduceNeg, Nat.reduceGT, Nat.reduceLT, Nat.reduceLeDiff, Nat.reduceEqDiff, ↓reduceIte, reduceCtorEq, Int.reduceToNat, Int.reduceLE, Int.reduceLT, Nat.reduceAdd, Nat.reduceMul, bne_realB, h, ff_60]) | (refine WK.condT ?_ ?_; focus (simp only [ev_tmp, ev_const, fset_apply, Nat.reduceEqDiff, ↓reduceIte, decide_true, decide_false, bne_realB, h, ff_60]; done)) | (refine WK.condF ?_ ?_; focus (simp only [ev_tmp, ev_const, fset_apply, Nat.reduceEqDiff, ↓reduceIte, decide_true, decide_false, bne_realB, h, ff_60]; done)))
 (first | refine WK.retNil ⟨Or.inr rfl, _, rfl, ?_, ?_⟩ | refine WK.skipNil ⟨Or.inl rfl, _, rfl, ?_, ?_⟩)
 ·exact fun _ _ => rfl
 ·simp only [packed, fset_apply, Nat.reduceEqDiff, ↓reduceIte, List.getD_cons_zero, List.getD_cons_succ, ff_60]
  exact ⟨trivial, trivial, trivial⟩
theorem order_max {neg : Bool} {E F : Nat} (hE : E ≤ 2046) (hF : F < 4503599627370496) : (FloatKind.f64.format.order (word neg E F) maxW == some .gt) = false := by
 have hr : Format.read double maxW = .number false 9007199254740991 971 := by kernel_rfl
 have hle : ∀ (s : Bool) (m : Nat) (e : Int), m ≤ 9007199254740991 → -1074 ≤ e → e ≤ 971 → ((Datum.number s m e).order (.number false 9007199254740991 971) == some .gt) = false := by
  intro s m e hm h1 h2
  have hb : min e 971 = e := by omega
  simp only [Datum.order, hb]
  have h0 : (e - e).toNat = 0 := by omega
  have a : signed s m (e - e).toNat ≤ 9007199254740991 := by
   rw [h0]; unfold signed; cases s <;> simp <;> omega
  have b : (9007199254740991 : Int) ≤ signed false 9007199254740991 (971 - e).toNat := by
   unfold signed
   rw [Nat.shiftLeft_eq]
   have := Nat.mul_le_mul_left 9007199254740991 (Nat.one_le_two_pow (n := (971 - e).toNat))
   simp only [Bool.false_eq_true, if_false]
   omega
  generalize signed s m (e - e).toNat = x at a
  generalize signed false 9007199254740991 (971 - e).toNat = y at b
  have : compare x y ≠ .gt := fun h => by have := Int.compare_eq_gt.1 h; omega
  cases hc : compare x y <;> first | rfl | exact absurd hc this
 show (Datum.order (Format.read double (word neg E F)) (Format.read double maxW) == some .gt) = false
 rw [hr, read_word]
 have h63 : word neg E F % 9223372036854775808 = E * 4503599627370496 + F := by unfold word; cases neg <;> simp <;> omega
 rw [h63]
 split
 ·exact hle _ _ _ (by omega) (by omega) (by omega)
 ·rw [if_pos (by omega)]
  exact hle _ _ _ (by omega) (by omega) (by omega)
def toBA (out : List Nat) : ByteArray := ⟨(out.map UInt8.ofNat).toArray⟩
theorem bytes_bv : ∀ out : List Nat, bytesOf (out.map bv) = some (out.map Int.ofNat) := by
 intro out
 induction out with
 | nil => rfl
 | cons a out ih =>
  simp only [List.map_cons, bytesOf, ih]
  rfl
theorem astr {H : Heap} {y : Nat} {out : List Nat} (h : H y = .cells (out.map bv) 5 true) : astring Tryz.prog 78 9 H (.slice (some ⟨y, 0, none⟩) out.length out.length) = some { v := .string (toBA out), rd := [y] } := by
 have h1 : Tryz.prog.underlying 78 = some (.slice 5) := by kernel_rfl
 have h2 : Tryz.prog.underlying 9 = some .string := by kernel_rfl
 have h3 : Tryz.prog.underlying 5 = some (.int .u8) := by kernel_rfl
 unfold astring
 simp only [h1, h2, h3, h]
 rw [if_pos (by simp)]
 rw [List.drop_zero, List.take_of_length_le (by simp), bytes_bv]
 simp only [Option.map_some, strNums, toBA, List.map_map]
 rfl
set_option maxHeartbeats 2000000 in
theorem format_of {b n : Nat} {H : Heap} {R : List Nat → Prop} (hft : ∀ H1, H1 n = .cells [] 5 true → WF (n + 1) H1 → (∀ x, x < n → H1 x = H x) → GivesX Tryz.prog (fun z => z = n) 110 [.slice (some ⟨n, 0, none⟩) 0 0, .float .f64 b, .int .u8 102, .int .i64 (-1)] (n + 1) H1 fun v n' H' =>
   ∃ out, R out ∧ ∃ y, v = .slice (some ⟨y, 0, none⟩) out.length out.length ∧ H' y = .cells (out.map bv) 5 true) (hw : WF n H) :
  Gives Tryz.prog 99 [.float .f64 b, .int .u8 102, .int .i64 (-1), .int .i64 64] n H fun v n' H' => ∃ out, R out ∧ v = .string (toBA out) := by
 refine Gives.of orders ok99 (Nat.le_of_ble_eq_true rfl) ?_
 have w1 : IntKind.i64.wrap (-1 + 4) = 3 := rfl
 have w2 : (if (3 : Int) < 24 then (24 : Int) else 3) = 24 := rfl
 have hbg : ((24 : Int) ≤ (bigN : Int)) = True := by simp [bigN]
 repeat (first | apply WK.seq | apply WK.block | apply WK.skipSeq | apply WK.skipBlock | apply WK.retSeq | apply WK.retBlock | apply WK.exitSeq | apply WK.exitHere | refine WK.exitOn rfl ?_ | ((first | (refine WK.rgn ?_ ?_; kernel_rfl) | refine AtCall.now ?_); simp (config := { maxSteps := 1000000 }) only [SS, forall_const, wx, tguard, acallee, top, tval, fput, tor, vsh, vbin, vconv, tmake, Int.reduceEq, Int.reduceNeg, Nat.reduceGT, Nat.reduceLT, Nat.reduceLeDiff, Nat.reduceEqDiff, ↓reduceIte, reduceCtorEq, Int.reduceToNat, Int.reduceLE, Int.reduceLT, Nat.reduceAdd, Nat.reduceMul, w1, w2, aop_max, tmm, hbg, ff_99]) | (refine WK.condT ?_ ?_; focus (simp only [ev_tmp, ev_const, fset_apply, Nat.reduceEqDiff, ↓reduceIte, decide_true, decide_false, w1, w2, aop_max, tmm, hbg, ff_99]; done)) | (refine WK.condF ?_ ?_; focus (simp only [ev_tmp, ev_const, fset_apply, Nat.reduceEqDiff, ↓reduceIte, decide_true, decide_false, w1, w2, aop_max, tmm, hbg, ff_99]; done)))
 have hkn := Kp.new n H (.cells [] 5 true)
 refine AtCall.byX (hft _ (hset_at _ _ _) (hkn.wf hw) (fun x hx => hkn.keep x hx)) ?_
 rintro v n2 H2 kx ⟨out, hR, y, rfl, hy⟩
 have ha := astr hy
 simp (config := { maxSteps := 1000000 }) only [SS, forall_const, wx, tguard, acallee, top, tval, fput, tor, vsh, vbin, vconv, tmake, Int.reduceEq, Int.reduceNeg, Nat.reduceGT, Nat.reduceLT, Nat.reduceLeDiff, Nat.reduceEqDiff, ↓reduceIte, reduceCtorEq, Int.reduceToNat, Int.reduceLE, Int.reduceLT, Nat.reduceAdd, Nat.reduceMul, aop_cv, acv, ha, ff_99]
 repeat (first | apply WK.seq | apply WK.block | apply WK.skipSeq | apply WK.skipBlock | apply WK.retSeq | apply WK.retBlock | apply WK.exitSeq | apply WK.exitHere | refine WK.exitOn rfl ?_ | ((first | (refine WK.rgn ?_ ?_; kernel_rfl) | refine AtCall.now ?_); simp (config := { maxSteps := 1000000 }) only [SS, forall_const, wx, tguard, acallee, top, tval, fput, tor, vsh, vbin, vconv, tmake, Int.reduceEq, Int.reduceNeg, Nat.reduceGT, Nat.reduceLT, Nat.reduceLeDiff, Nat.reduceEqDiff, ↓reduceIte, reduceCtorEq, Int.reduceToNat, Int.reduceLE, Int.reduceLT, Nat.reduceAdd, Nat.reduceMul, aop_cv, acv, ha, ff_99]) | (refine WK.condT ?_ ?_; focus (simp only [ev_tmp, ev_const, fset_apply, Nat.reduceEqDiff, ↓reduceIte, decide_true, decide_false, aop_cv, acv, ha, ff_99]; done)) | (refine WK.condF ?_ ?_; focus (simp only [ev_tmp, ev_const, fset_apply, Nat.reduceEqDiff, ↓reduceIte, decide_true, decide_false, aop_cv, acv, ha, ff_99]; done)))
 (first | refine WK.retNil ⟨Or.inr rfl, _, rfl, ?_, ?_⟩ | refine WK.skipNil ⟨Or.inl rfl, _, rfl, ?_, ?_⟩)
 ·intro z hz
  show H2 z = H z
  rw [kx.keep z (by omega) (by omega)]; exact hkn.keep z hz
 ·simp only [packed, fset_apply, Nat.reduceEqDiff, ↓reduceIte, List.getD_cons_zero, List.getD_cons_succ, ff_99]
  exact ⟨out, hR, rfl⟩
set_option maxHeartbeats 2000000 in
theorem format2_of {b n : Nat} {H : Heap} {R : List Nat → Prop} (h : Gives Tryz.prog 99 [.float .f64 b, .int .u8 102, .int .i64 (-1), .int .i64 64] n H fun v n' H' => ∃ out, R out ∧ v = .string (toBA out)) :
  Gives Tryz.prog 79 [.float .f64 b, .int .u8 102, .int .i64 (-1), .int .i64 64] n H fun v n' H' => ∃ out, R out ∧ v = .string (toBA out) := by
 refine Gives.of orders ok79 (Nat.le_of_ble_eq_true rfl) ?_
 repeat (first | apply WK.seq | apply WK.block | apply WK.skipSeq | apply WK.skipBlock | apply WK.retSeq | apply WK.retBlock | apply WK.exitSeq | apply WK.exitHere | refine WK.exitOn rfl ?_ | ((first | (refine WK.rgn ?_ ?_; kernel_rfl) | refine AtCall.now ?_); simp (config := { maxSteps := 1000000 }) only [SS, qx24, forall_const, Int.reduceEq, Int.reduceNeg, Nat.reduceGT, Nat.reduceLT, Nat.reduceLeDiff, Nat.reduceEqDiff, ↓reduceIte, reduceCtorEq, Int.reduceToNat, Int.reduceLE, Int.reduceLT, Nat.reduceAdd, Nat.reduceMul]) | (refine WK.condT ?_ ?_; focus (simp only [ev_tmp, ev_const, fset_apply, Nat.reduceEqDiff, ↓reduceIte, decide_true, decide_false]; done)) | (refine WK.condF ?_ ?_; focus (simp only [ev_tmp, ev_const, fset_apply, Nat.reduceEqDiff, ↓reduceIte, decide_true, decide_false]; done)))
 refine AtCall.by h ?_
 rintro v n2 H2 hk ⟨out, hR, rfl⟩
 simp (config := { maxSteps := 1000000 }) only [SS, qx24, forall_const, Int.reduceEq, Int.reduceNeg, Nat.reduceGT, Nat.reduceLT, Nat.reduceLeDiff, Nat.reduceEqDiff, ↓reduceIte, reduceCtorEq, Int.reduceToNat, Int.reduceLE, Int.reduceLT, Nat.reduceAdd, Nat.reduceMul]
 repeat (first | apply WK.seq | apply WK.block | apply WK.skipSeq | apply WK.skipBlock | apply WK.retSeq | apply WK.retBlock | apply WK.exitSeq | apply WK.exitHere | refine WK.exitOn rfl ?_ | ((first | (refine WK.rgn ?_ ?_; kernel_rfl) | refine AtCall.now ?_); simp (config := { maxSteps := 1000000 }) only [SS, qx24, forall_const, Int.reduceEq, Int.reduceNeg, Nat.reduceGT, Nat.reduceLT, Nat.reduceLeDiff, Nat.reduceEqDiff, ↓reduceIte, reduceCtorEq, Int.reduceToNat, Int.reduceLE, Int.reduceLT, Nat.reduceAdd, Nat.reduceMul]) | (refine WK.condT ?_ ?_; focus (simp only [ev_tmp, ev_const, fset_apply, Nat.reduceEqDiff, ↓reduceIte, decide_true, decide_false]; done)) | (refine WK.condF ?_ ?_; focus (simp only [ev_tmp, ev_const, fset_apply, Nat.reduceEqDiff, ↓reduceIte, decide_true, decide_false]; done)))
 (first | refine WK.retNil ⟨Or.inr rfl, _, rfl, ?_, ?_⟩ | refine WK.skipNil ⟨Or.inl rfl, _, rfl, ?_, ?_⟩)
 ·exact fun z hz => hk.keep z hz
 ·simp only [packed, fset_apply, Nat.reduceEqDiff, ↓reduceIte, List.getD_cons_zero, List.getD_cons_succ]
  exact ⟨out, hR, rfl⟩
set_option maxHeartbeats 2000000 in
theorem text_fin {b n : Nat} {H : Heap} {R : List Nat → Prop} (h1 : realB b = true) (h2 : (FloatKind.f64.format.order b maxW == some .gt) = false) (h3 : (FloatKind.f64.format.order (Op.negFloat .f64 b) maxW == some .gt) = false)
  (h : ∀ n' H', Kp n H n' H' → Gives Tryz.prog 99 [.float .f64 b, .int .u8 102, .int .i64 (-1), .int .i64 64] n' H' fun v n' H' => ∃ out, R out ∧ v = .string (toBA out)) :
  Gives Tryz.prog 60 [.float .f64 b] n H fun v n' H' => ∃ out, R out ∧ v = .string (toBA out) := by
 refine Gives.of orders ok60 (Nat.le_of_ble_eq_true rfl) ?_
 repeat (first | apply WK.seq | apply WK.block | apply WK.skipSeq | apply WK.skipBlock | apply WK.retSeq | apply WK.retBlock | apply WK.exitSeq | apply WK.exitHere | refine WK.exitOn rfl ?_ | ((first | (refine WK.rgn ?_ ?_; kernel_rfl) | refine AtCall.now ?_); simp (config := { maxSteps := 1000000 }) only [SS, qx6, forall_const, Int.reduceEq, Int.reduceNeg, Nat.reduceGT, Nat.reduceLT, Nat.reduceLeDiff, Nat.reduceEqDiff, ↓reduceIte, reduceCtorEq, Int.reduceToNat, Int.reduceLE, Int.reduceLT, Nat.reduceAdd, Nat.reduceMul, bne_realB, h1, ff_60]) | (refine WK.condT ?_ ?_; focus (simp only [ev_tmp, ev_const, fset_apply, Nat.reduceEqDiff, ↓reduceIte, decide_true, decide_false, bne_realB, h1, ff_60]; done)) | (refine WK.condF ?_ ?_; focus (simp only [ev_tmp, ev_const, fset_apply, Nat.reduceEqDiff, ↓reduceIte, decide_true, decide_false, bne_realB, h1, ff_60]; done)))
 refine AtCall.by (isinf1_gives b _ _) ?_
 rintro v n2 H2 hk ⟨rfl, rfl, rfl⟩
 simp (config := { maxSteps := 1000000 }) only [SS, qx6, forall_const, Int.reduceEq, Int.reduceNeg, Nat.reduceGT, Nat.reduceLT, Nat.reduceLeDiff, Nat.reduceEqDiff, ↓reduceIte, reduceCtorEq, Int.reduceToNat, Int.reduceLE, Int.reduceLT, Nat.reduceAdd, Nat.reduceMul, h2, ff_60]
 repeat (first | apply WK.seq | apply WK.block | apply WK.skipSeq | apply WK.skipBlock | apply WK.retSeq | apply WK.retBlock | apply WK.exitSeq | apply WK.exitHere | refine WK.exitOn rfl ?_ | ((first | (refine WK.rgn ?_ ?_; kernel_rfl) | refine AtCall.now ?_); simp (config := { maxSteps := 1000000 }) only [SS, qx6, forall_const, Int.reduceEq, Int.reduceNeg, Nat.reduceGT, Nat.reduceLT, Nat.reduceLeDiff, Nat.reduceEqDiff, ↓reduceIte, reduceCtorEq, Int.reduceToNat, Int.reduceLE, Int.reduceLT, Nat.reduceAdd, Nat.reduceMul, h2, ff_60]) | (refine WK.condT ?_ ?_; focus (simp only [ev_tmp, ev_const, fset_apply, Nat.reduceEqDiff, ↓reduceIte, decide_true, decide_false, h2, ff_60]; done)) | (refine WK.condF ?_ ?_; focus (simp only [ev_tmp, ev_const, fset_apply, Nat.reduceEqDiff, ↓reduceIte, decide_true, decide_false, h2, ff_60]; done)))
 refine AtCall.by (isinf2_gives b _ _) ?_
 rintro v n2 H2 hk ⟨rfl, rfl, rfl⟩
 simp (config := { maxSteps := 1000000 }) only [SS, qx6, forall_const, Int.reduceEq, Int.reduceNeg, Nat.reduceGT, Nat.reduceLT, Nat.reduceLeDiff, Nat.reduceEqDiff, ↓reduceIte, reduceCtorEq, Int.reduceToNat, Int.reduceLE, Int.reduceLT, Nat.reduceAdd, Nat.reduceMul, h3, ff_60]
 repeat (first | apply WK.seq | apply WK.block | apply WK.skipSeq | apply WK.skipBlock | apply WK.retSeq | apply WK.retBlock | apply WK.exitSeq | apply WK.exitHere | refine WK.exitOn rfl ?_ | ((first | (refine WK.rgn ?_ ?_; kernel_rfl) | refine AtCall.now ?_); simp (config := { maxSteps := 1000000 }) only [SS, qx6, forall_const, Int.reduceEq, Int.reduceNeg, Nat.reduceGT, Nat.reduceLT, Nat.reduceLeDiff, Nat.reduceEqDiff, ↓reduceIte, reduceCtorEq, Int.reduceToNat, Int.reduceLE, Int.reduceLT, Nat.reduceAdd, Nat.reduceMul, h3, ff_60]) | (refine WK.condT ?_ ?_; focus (simp only [ev_tmp, ev_const, fset_apply, Nat.reduceEqDiff, ↓reduceIte, decide_true, decide_false, h3, ff_60]; done)) | (refine WK.condF ?_ ?_; focus (simp only [ev_tmp, ev_const, fset_apply, Nat.reduceEqDiff, ↓reduceIte, decide_true, decide_false, h3, ff_60]; done)))
 refine AtCall.by (format2_of (h _ _ hk)) ?_
 rintro v n2 H2 hk ⟨out, hR, rfl⟩
 simp (config := { maxSteps := 1000000 }) only [SS, qx6, forall_const, Int.reduceEq, Int.reduceNeg, Nat.reduceGT, Nat.reduceLT, Nat.reduceLeDiff, Nat.reduceEqDiff, ↓reduceIte, reduceCtorEq, Int.reduceToNat, Int.reduceLE, Int.reduceLT, Nat.reduceAdd, Nat.reduceMul, ff_60]
 repeat (first | apply WK.seq | apply WK.block | apply WK.skipSeq | apply WK.skipBlock | apply WK.retSeq | apply WK.retBlock | apply WK.exitSeq | apply WK.exitHere | refine WK.exitOn rfl ?_ | ((first | (refine WK.rgn ?_ ?_; kernel_rfl) | refine AtCall.now ?_); simp (config := { maxSteps := 1000000 }) only [SS, qx6, forall_const, Int.reduceEq, Int.reduceNeg, Nat.reduceGT, Nat.reduceLT, Nat.reduceLeDiff, Nat.reduceEqDiff, ↓reduceIte, reduceCtorEq, Int.reduceToNat, Int.reduceLE, Int.reduceLT, Nat.reduceAdd, Nat.reduceMul, ff_60]) | (refine WK.condT ?_ ?_; focus (simp only [ev_tmp, ev_const, fset_apply, Nat.reduceEqDiff, ↓reduceIte, decide_true, decide_false, ff_60]; done)) | (refine WK.condF ?_ ?_; focus (simp only [ev_tmp, ev_const, fset_apply, Nat.reduceEqDiff, ↓reduceIte, decide_true, decide_false, ff_60]; done)))
 (first | refine WK.retNil ⟨Or.inr rfl, _, rfl, ?_, ?_⟩ | refine WK.skipNil ⟨Or.inl rfl, _, rfl, ?_, ?_⟩)
 ·exact fun z hz => hk.keep z hz
 ·simp only [packed, fset_apply, Nat.reduceEqDiff, ↓reduceIte, List.getD_cons_zero, List.getD_cons_succ, ff_60]
  exact ⟨out, hR, rfl⟩
set_option maxHeartbeats 2000000 in
theorem text_inf (n : Nat) (H : Heap) : Gives Tryz.prog 60 [.float .f64 0x7FF0000000000000] n H fun v n' H' => v = .string ⟨#[105, 110, 102]⟩ ∧ n' = n ∧ H' = H := by
 have h1 : realB 0x7FF0000000000000 = true := by kernel_rfl
 have h2 : (FloatKind.f64.format.order 0x7FF0000000000000 maxW == some .gt) = true := by kernel_rfl
 refine Gives.of orders ok60 (Nat.le_of_ble_eq_true rfl) ?_
 repeat (first | apply WK.seq | apply WK.block | apply WK.skipSeq | apply WK.skipBlock | apply WK.retSeq | apply WK.retBlock | apply WK.exitSeq | apply WK.exitHere | refine WK.exitOn rfl ?_ | ((first | (refine WK.rgn ?_ ?_; kernel_rfl) | refine AtCall.now ?_); simp (config := { maxSteps := 1000000 }) only [SS, qx6, forall_const, Int.reduceEq, Int.reduceNeg, Nat.reduceGT, Nat.reduceLT, Nat.reduceLeDiff, Nat.reduceEqDiff, ↓reduceIte, reduceCtorEq, Int.reduceToNat, Int.reduceLE, Int.reduceLT, Nat.reduceAdd, Nat.reduceMul, bne_realB, h1, ff_60]) | (refine WK.condT ?_ ?_; focus (simp only [ev_tmp, ev_const, fset_apply, Nat.reduceEqDiff, ↓reduceIte, decide_true, decide_false, bne_realB, h1, ff_60]; done)) | (refine WK.condF ?_ ?_; focus (simp only [ev_tmp, ev_const, fset_apply, Nat.reduceEqDiff, ↓reduceIte, decide_true, decide_false, bne_realB, h1, ff_60]; done)))
 refine AtCall.by (isinf1_gives _ _ _) ?_
 rintro v n2 H2 hk ⟨rfl, rfl, rfl⟩
 simp (config := { maxSteps := 1000000 }) only [SS, qx6, forall_const, Int.reduceEq, Int.reduceNeg, Nat.reduceGT, Nat.reduceLT, Nat.reduceLeDiff, Nat.reduceEqDiff, ↓reduceIte, reduceCtorEq, Int.reduceToNat, Int.reduceLE, Int.reduceLT, Nat.reduceAdd, Nat.reduceMul, h2, ff_60]
 repeat (first | apply WK.seq | apply WK.block | apply WK.skipSeq | apply WK.skipBlock | apply WK.retSeq | apply WK.retBlock | apply WK.exitSeq | apply WK.exitHere | refine WK.exitOn rfl ?_ | ((first | (refine WK.rgn ?_ ?_; kernel_rfl) | refine AtCall.now ?_); simp (config := { maxSteps := 1000000 }) only [SS, qx6, forall_const, Int.reduceEq, Int.reduceNeg, Nat.reduceGT, Nat.reduceLT, Nat.reduceLeDiff, Nat.reduceEqDiff, ↓reduceIte, reduceCtorEq, Int.reduceToNat, Int.reduceLE, Int.reduceLT, Nat.reduceAdd, Nat.reduceMul, h2, ff_60]) | (refine WK.condT ?_ ?_; focus (simp only [ev_tmp, ev_const, fset_apply, Nat.reduceEqDiff, ↓reduceIte, decide_true, decide_false, h2, ff_60]; done)) | (refine WK.condF ?_ ?_; focus (simp only [ev_tmp, ev_const, fset_apply, Nat.reduceEqDiff, ↓reduceIte, decide_true, decide_false, h2, ff_60]; done)))
 (first | refine WK.retNil ⟨Or.inr rfl, _, rfl, ?_, ?_⟩ | refine WK.skipNil ⟨Or.inl rfl, _, rfl, ?_, ?_⟩)
 ·exact fun z hz => hk.keep z hz
 ·simp only [packed, fset_apply, Nat.reduceEqDiff, ↓reduceIte, List.getD_cons_zero, List.getD_cons_succ, ff_60]
  exact ⟨trivial, trivial, trivial⟩
theorem text_ninf (n : Nat) (H : Heap) : Gives Tryz.prog 60 [.float .f64 0xFFF0000000000000] n H fun v n' H' => v = .string ⟨#[45, 105, 110, 102]⟩ ∧ n' = n ∧ H' = H := by
 have h1 : realB 0xFFF0000000000000 = true := by kernel_rfl
 have h2 : (FloatKind.f64.format.order 0xFFF0000000000000 maxW == some .gt) = false := by kernel_rfl
 have h3 : (FloatKind.f64.format.order (Op.negFloat .f64 0xFFF0000000000000) maxW == some .gt) = true := by kernel_rfl
 refine Gives.of orders ok60 (Nat.le_of_ble_eq_true rfl) ?_
 repeat (first | apply WK.seq | apply WK.block | apply WK.skipSeq | apply WK.skipBlock | apply WK.retSeq | apply WK.retBlock | apply WK.exitSeq | apply WK.exitHere | refine WK.exitOn rfl ?_ | ((first | (refine WK.rgn ?_ ?_; kernel_rfl) | refine AtCall.now ?_); simp (config := { maxSteps := 1000000 }) only [SS, qx6, forall_const, Int.reduceEq, Int.reduceNeg, Nat.reduceGT, Nat.reduceLT, Nat.reduceLeDiff, Nat.reduceEqDiff, ↓reduceIte, reduceCtorEq, Int.reduceToNat, Int.reduceLE, Int.reduceLT, Nat.reduceAdd, Nat.reduceMul, bne_realB, h1, ff_60]) | (refine WK.condT ?_ ?_; focus (simp only [ev_tmp, ev_const, fset_apply, Nat.reduceEqDiff, ↓reduceIte, decide_true, decide_false, bne_realB, h1, ff_60]; done)) | (refine WK.condF ?_ ?_; focus (simp only [ev_tmp, ev_const, fset_apply, Nat.reduceEqDiff, ↓reduceIte, decide_true, decide_false, bne_realB, h1, ff_60]; done)))
 refine AtCall.by (isinf1_gives _ _ _) ?_
 rintro v n2 H2 hk ⟨rfl, rfl, rfl⟩
 simp (config := { maxSteps := 1000000 }) only [SS, qx6, forall_const, Int.reduceEq, Int.reduceNeg, Nat.reduceGT, Nat.reduceLT, Nat.reduceLeDiff, Nat.reduceEqDiff, ↓reduceIte, reduceCtorEq, Int.reduceToNat, Int.reduceLE, Int.reduceLT, Nat.reduceAdd, Nat.reduceMul, h2, ff_60]
 repeat (first | apply WK.seq | apply WK.block | apply WK.skipSeq | apply WK.skipBlock | apply WK.retSeq | apply WK.retBlock | apply WK.exitSeq | apply WK.exitHere | refine WK.exitOn rfl ?_ | ((first | (refine WK.rgn ?_ ?_; kernel_rfl) | refine AtCall.now ?_); simp (config := { maxSteps := 1000000 }) only [SS, qx6, forall_const, Int.reduceEq, Int.reduceNeg, Nat.reduceGT, Nat.reduceLT, Nat.reduceLeDiff, Nat.reduceEqDiff, ↓reduceIte, reduceCtorEq, Int.reduceToNat, Int.reduceLE, Int.reduceLT, Nat.reduceAdd, Nat.reduceMul, h2, ff_60]) | (refine WK.condT ?_ ?_; focus (simp only [ev_tmp, ev_const, fset_apply, Nat.reduceEqDiff, ↓reduceIte, decide_true, decide_false, h2, ff_60]; done)) | (refine WK.condF ?_ ?_; focus (simp only [ev_tmp, ev_const, fset_apply, Nat.reduceEqDiff, ↓reduceIte, decide_true, decide_false, h2, ff_60]; done)))
 refine AtCall.by (isinf2_gives _ _ _) ?_
 rintro v n2 H2 hk ⟨rfl, rfl, rfl⟩
 simp (config := { maxSteps := 1000000 }) only [SS, qx6, forall_const, Int.reduceEq, Int.reduceNeg, Nat.reduceGT, Nat.reduceLT, Nat.reduceLeDiff, Nat.reduceEqDiff, ↓reduceIte, reduceCtorEq, Int.reduceToNat, Int.reduceLE, Int.reduceLT, Nat.reduceAdd, Nat.reduceMul, h3, ff_60]
 repeat (first | apply WK.seq | apply WK.block | apply WK.skipSeq | apply WK.skipBlock | apply WK.retSeq | apply WK.retBlock | apply WK.exitSeq | apply WK.exitHere | refine WK.exitOn rfl ?_ | ((first | (refine WK.rgn ?_ ?_; kernel_rfl) | refine AtCall.now ?_); simp (config := { maxSteps := 1000000 }) only [SS, qx6, forall_const, Int.reduceEq, Int.reduceNeg, Nat.reduceGT, Nat.reduceLT, Nat.reduceLeDiff, Nat.reduceEqDiff, ↓reduceIte, reduceCtorEq, Int.reduceToNat, Int.reduceLE, Int.reduceLT, Nat.reduceAdd, Nat.reduceMul, h3, ff_60]) | (refine WK.condT ?_ ?_; focus (simp only [ev_tmp, ev_const, fset_apply, Nat.reduceEqDiff, ↓reduceIte, decide_true, decide_false, h3, ff_60]; done)) | (refine WK.condF ?_ ?_; focus (simp only [ev_tmp, ev_const, fset_apply, Nat.reduceEqDiff, ↓reduceIte, decide_true, decide_false, h3, ff_60]; done)))
 (first | refine WK.retNil ⟨Or.inr rfl, _, rfl, ?_, ?_⟩ | refine WK.skipNil ⟨Or.inl rfl, _, rfl, ?_, ?_⟩)
 ·exact fun z hz => hk.keep z hz
 ·simp only [packed, fset_apply, Nat.reduceEqDiff, ↓reduceIte, List.getD_cons_zero, List.getD_cons_succ, ff_60]
  exact ⟨trivial, trivial, trivial⟩
end Go.Proofs.YtihjaobjhmmboaaGreatDoor
