/- A part of a proof. Its conditions: none. -/
import Derived.Test.YtddpnhhgmfaloaaDoorAmEAlive
import Derived.Test.YtddpnhhgmfaloaaDoorAmD
set_option linter.all false
namespace Go.Proofs.YtddpnhhgmfaloaaDoor
open Go.AM
set_option maxRecDepth 100000

theorem min32 : min 32 IntKind.u64.bits = 32 := rfl
theorem min16 : min 16 IntKind.u64.bits = 16 := rfl
theorem min8 : min 8 IntKind.u64.bits = 8 := rfl
theorem min2 : min 2 IntKind.u64.bits = 2 := rfl
theorem and32 (x : Nat) (h : x < 18446744073709551616) : IntKind.u64.wrap (BitVec.ofInt IntKind.u64.bits (x : Int) &&& BitVec.ofInt IntKind.u64.bits 4294967295).toNat = ((x % 4294967296 : Nat) : Int) := by
  have := and_u64 x 4294967295 h (by omega)
  have h' : IntKind.u64.wrap (BitVec.ofInt IntKind.u64.bits (x : Int) &&& BitVec.ofInt IntKind.u64.bits 4294967295).toNat = ((x &&& 4294967295 : Nat) : Int) := this
  rw [h', show (4294967295 : Nat) = 2 ^ 32 - 1 by rfl, and_mask]
theorem shr32 (x : Nat) : (x : Int).fdiv (2 ^ 32) = ((x / 4294967296 : Nat) : Int) := shr_nat x 32
theorem wmul (a b c : Nat) (h : a * b = c) (hc : c < 18446744073709551616) : IntKind.u64.wrap ((a : Int) * (b : Int)) = (c : Int) := by
  have : (a : Int) * (b : Int) = ((c : Nat) : Int) := by rw [← h]; simp
  rw [this, wrap_u64n, Nat.mod_eq_of_lt hc]
theorem wadd (a b c : Nat) (h : a + b = c) (hc : c < 18446744073709551616) : IntKind.u64.wrap ((a : Int) + (b : Int)) = (c : Int) := by
  have : (a : Int) + (b : Int) = ((c : Nat) : Int) := by rw [← h]; simp
  rw [this, wrap_u64n, Nat.mod_eq_of_lt hc]
theorem wmul_mod (a b : Nat) : IntKind.u64.wrap ((a : Int) * (b : Int)) = ((a * b % 18446744073709551616 : Nat) : Int) := by
  have : (a : Int) * (b : Int) = ((a * b : Nat) : Int) := by simp
  rw [this, wrap_u64n]

theorem mul64_gives (x y : Nat) (hx : x < 18446744073709551616) (hy : y < 18446744073709551616) (n : Nat) (H : Heap) :
    Gives Tryd.prog 46 [.int .u64 x, .int .u64 y] n H fun v n' H' => v = .tuple #[.int .u64 ((x * y / 18446744073709551616 : Nat) : Int), .int .u64 ((x * y % 18446744073709551616 : Nat) : Int)] ∧ n' = n ∧ H' = H := by
  refine Gives.of orders ok46 (Nat.le_of_ble_eq_true rfl) ?_
  have a1 := and32 x hx
  have a2 := shr32 x
  have a3 := and32 y hy
  have a4 := shr32 y
  have key : x * y = x / 4294967296 * (y / 4294967296) * 18446744073709551616 + (x / 4294967296 * (y % 4294967296) + x % 4294967296 * (y / 4294967296)) * 4294967296 + x % 4294967296 * (y % 4294967296) := by
    have e1 : x = x / 4294967296 * 4294967296 + x % 4294967296 := by omega
    have e2 : y = y / 4294967296 * 4294967296 + y % 4294967296 := by omega
    generalize x / 4294967296 = p at *
    generalize x % 4294967296 = q at *
    generalize y / 4294967296 = r at *
    generalize y % 4294967296 = s at *
    rw [e1, e2, Nat.add_mul, Nat.mul_add, Nat.mul_add]
    have e3 : p * 4294967296 * (r * 4294967296) = p * r * 18446744073709551616 := by
      rw [Nat.mul_mul_mul_comm]
    have e4 : p * 4294967296 * s = p * s * 4294967296 := by rw [Nat.mul_right_comm]
    have e5 : q * (r * 4294967296) = q * r * 4294967296 := by rw [Nat.mul_assoc]
    rw [e3, e4, e5]
    omega
  have b1 : x / 4294967296 < 4294967296 := by omega
  have b2 : x % 4294967296 < 4294967296 := by omega
  have b3 : y / 4294967296 < 4294967296 := by omega
  have b4 : y % 4294967296 < 4294967296 := by omega
  have ml := wmul_mod x y
  generalize x / 4294967296 = x1 at *
  generalize x % 4294967296 = x0 at *
  generalize y / 4294967296 = y1 at *
  generalize y % 4294967296 = y0 at *
  have prod : ∀ a b : Nat, a < 4294967296 → b < 4294967296 → a * b ≤ 18446744065119617025 := fun a b ha hb => by
    have := Nat.mul_le_mul (show a ≤ 4294967295 by omega) (show b ≤ 4294967295 by omega)
    omega
  have pA := prod x1 y1 b1 b3
  have pB := prod x1 y0 b1 b4
  have pC := prod x0 y1 b2 b3
  have pD := prod x0 y0 b2 b4
  have m1 := wmul x0 y0 _ rfl (by omega)
  have m2 := wmul x1 y0 _ rfl (by omega)
  have m3 := wmul x0 y1 _ rfl (by omega)
  have m4 := wmul x1 y1 _ rfl (by omega)
  generalize x1 * y1 = A at *
  generalize x1 * y0 = B at *
  generalize x0 * y1 = C at *
  generalize x0 * y0 = D at *
  have s1 := shr32 D
  have t1 := wadd B (D / 4294967296) (B + D / 4294967296) rfl (by omega)
  have u1 := and32 (B + D / 4294967296) (by omega)
  have u2 := shr32 (B + D / 4294967296)
  have t2 := wadd ((B + D / 4294967296) % 4294967296) C _ rfl (by omega)
  have t3 := wadd A ((B + D / 4294967296) / 4294967296) _ rfl (by omega)
  have u3 := shr32 ((B + D / 4294967296) % 4294967296 + C)
  have t4 := wadd (A + (B + D / 4294967296) / 4294967296) (((B + D / 4294967296) % 4294967296 + C) / 4294967296) _ rfl (by omega)
  have fin : A + (B + D / 4294967296) / 4294967296 + ((B + D / 4294967296) % 4294967296 + C) / 4294967296 = x * y / 18446744073709551616 := by omega
-- function 46
  repeat (first | apply WK.seq | apply WK.block | apply WK.skipSeq | apply WK.skipBlock | apply WK.retSeq | apply WK.retBlock | apply WK.exitSeq | apply WK.exitHere | refine WK.exitOn rfl ?_ | ((first | (refine WK.rgn ?_ ?_; kernel_rfl) | refine AtCall.now ?_); simp (config := { maxSteps := 1000000 }) only [SS, forall_const, wx, tguard, acallee, top, tval, fput, tor, vsh, vbin, Int.reduceEq, Int.reduceNeg, Nat.reduceGT, Nat.reduceLT, Nat.reduceLeDiff, Nat.reduceEqDiff, ↓reduceIte, reduceCtorEq, Int.reduceToNat, Int.reduceLE, Int.reduceLT, Nat.reduceAdd, Nat.reduceMul, min32, a1, a2, a3, a4, m1, m2, m3, m4, s1, t1, u1, u2, t2, t3, u3, t4, ml]) | (refine WK.condT ?_ ?_; focus (simp only [ev_tmp, ev_const, fset_apply, Nat.reduceEqDiff, ↓reduceIte, decide_true, decide_false, min32, a1, a2, a3, a4, m1, m2, m3, m4, s1, t1, u1, u2, t2, t3, u3, t4, ml]; done)) | (refine WK.condF ?_ ?_; focus (simp only [ev_tmp, ev_const, fset_apply, Nat.reduceEqDiff, ↓reduceIte, decide_true, decide_false, min32, a1, a2, a3, a4, m1, m2, m3, m4, s1, t1, u1, u2, t2, t3, u3, t4, ml]; done)))
  (first | refine WK.retNil ⟨Or.inr rfl, _, rfl, ?_, ?_⟩ | refine WK.skipNil ⟨Or.inl rfl, _, rfl, ?_, ?_⟩)
  · exact fun _ _ => rfl
  · simp only [packed, fset_apply, Nat.reduceEqDiff, ↓reduceIte, List.getD_cons_zero, List.getD_cons_succ]
    rw [fin]
    exact ⟨rfl, trivial, trivial⟩
end Go.Proofs.YtddpnhhgmfaloaaDoor
