/- A part of a proof. Its conditions: none. -/
import Derived.Test.YtihjaobjhmmboaaGreatDoorAmUMul
import Derived.Test.YtihjaobjhmmboaaGreatDoorAmULen
set_option linter.all false
namespace Go.Proofs.YtihjaobjhmmboaaGreatDoor
open Go.AM
set_option maxRecDepth 100000
theorem log10_gives (x : Int) (h : -100000 ≤ x ∧ x ≤ 100000) (n : Nat) (H : Heap) : Gives Tryz.prog 126 [.int .i64 x] n H fun v n' H' => v = .int .i64 ((x * 78913).fdiv (2 ^ 18)) ∧ n' = n ∧ H' = H := by
 refine Gives.of orders ok126 (Nat.le_of_ble_eq_true rfl) ?_
 have h1 : IntKind.i64.wrap (x * 78913) = x * 78913 := wrap_in (by omega) (by omega)
 have h2 : min 18 IntKind.i64.bits = 18 := rfl
 repeat (first | apply WK.seq | apply WK.block | apply WK.skipSeq | apply WK.skipBlock | apply WK.retSeq | apply WK.retBlock | apply WK.exitSeq | apply WK.exitHere | refine WK.exitOn rfl ?_ | ((first | (refine WK.rgn ?_ ?_; kernel_rfl) | refine AtCall.now ?_); simp (config := { maxSteps := 1000000 }) only [SS, qx8, forall_const, Int.reduceEq, Int.reduceNeg, Nat.reduceGT, Nat.reduceLT, Nat.reduceLeDiff, Nat.reduceEqDiff, ↓reduceIte, reduceCtorEq, Int.reduceToNat, Int.reduceLE, Int.reduceLT, Nat.reduceAdd, Nat.reduceMul, h1, h2]) | (refine WK.condT ?_ ?_; focus (simp only [ev_tmp, ev_const, fset_apply, Nat.reduceEqDiff, ↓reduceIte, decide_true, decide_false, h1, h2]; done)) | (refine WK.condF ?_ ?_; focus (simp only [ev_tmp, ev_const, fset_apply, Nat.reduceEqDiff, ↓reduceIte, decide_true, decide_false, h1, h2]; done)))
 (first | refine WK.retNil ⟨Or.inr rfl, _, rfl, ?_, ?_⟩ | refine WK.skipNil ⟨Or.inl rfl, _, rfl, ?_, ?_⟩)
 ·exact fun _ _ => rfl
 ·simp only [packed, fset_apply, Nat.reduceEqDiff, ↓reduceIte, List.getD_cons_zero, List.getD_cons_succ]
  simp
theorem log2_gives (x : Int) (h : -100000 ≤ x ∧ x ≤ 100000) (n : Nat) (H : Heap) : Gives Tryz.prog 142 [.int .i64 x] n H fun v n' H' => v = .int .i64 ((x * 108853).fdiv (2 ^ 15)) ∧ n' = n ∧ H' = H := by
 refine Gives.of orders ok142 (Nat.le_of_ble_eq_true rfl) ?_
 have h1 : IntKind.i64.wrap (x * 108853) = x * 108853 := wrap_in (by omega) (by omega)
 have h2 : min 15 IntKind.i64.bits = 15 := rfl
 repeat (first | apply WK.seq | apply WK.block | apply WK.skipSeq | apply WK.skipBlock | apply WK.retSeq | apply WK.retBlock | apply WK.exitSeq | apply WK.exitHere | refine WK.exitOn rfl ?_ | ((first | (refine WK.rgn ?_ ?_; kernel_rfl) | refine AtCall.now ?_); simp (config := { maxSteps := 1000000 }) only [SS, qx8, forall_const, Int.reduceEq, Int.reduceNeg, Nat.reduceGT, Nat.reduceLT, Nat.reduceLeDiff, Nat.reduceEqDiff, ↓reduceIte, reduceCtorEq, Int.reduceToNat, Int.reduceLE, Int.reduceLT, Nat.reduceAdd, Nat.reduceMul, h1, h2]) | (refine WK.condT ?_ ?_; focus (simp only [ev_tmp, ev_const, fset_apply, Nat.reduceEqDiff, ↓reduceIte, decide_true, decide_false, h1, h2]; done)) | (refine WK.condF ?_ ?_; focus (simp only [ev_tmp, ev_const, fset_apply, Nat.reduceEqDiff, ↓reduceIte, decide_true, decide_false, h1, h2]; done)))
 (first | refine WK.retNil ⟨Or.inr rfl, _, rfl, ?_, ?_⟩ | refine WK.skipNil ⟨Or.inl rfl, _, rfl, ?_, ?_⟩)
 ·exact fun _ _ => rfl
 ·simp only [packed, fset_apply, Nat.reduceEqDiff, ↓reduceIte, List.getD_cons_zero, List.getD_cons_succ]
  simp
theorem skewed_gives (x : Int) (h : -100000 ≤ x ∧ x ≤ 100000) (n : Nat) (H : Heap) : Gives Tryz.prog 140 [.int .i64 x] n H fun v n' H' => v = .int .i64 ((x * 631305 - 261663).fdiv (2 ^ 21)) ∧ n' = n ∧ H' = H := by
 refine Gives.of orders ok140 (Nat.le_of_ble_eq_true rfl) ?_
 have h1 : IntKind.i64.wrap (x * 631305) = x * 631305 := wrap_in (by omega) (by omega)
 have h3 : IntKind.i64.wrap (x * 631305 - 261663) = x * 631305 - 261663 := wrap_in (by omega) (by omega)
 have h2 : min 21 IntKind.i64.bits = 21 := rfl
 repeat (first | apply WK.seq | apply WK.block | apply WK.skipSeq | apply WK.skipBlock | apply WK.retSeq | apply WK.retBlock | apply WK.exitSeq | apply WK.exitHere | refine WK.exitOn rfl ?_ | ((first | (refine WK.rgn ?_ ?_; kernel_rfl) | refine AtCall.now ?_); simp (config := { maxSteps := 1000000 }) only [SS, qx8, forall_const, Int.reduceEq, Int.reduceNeg, Nat.reduceGT, Nat.reduceLT, Nat.reduceLeDiff, Nat.reduceEqDiff, ↓reduceIte, reduceCtorEq, Int.reduceToNat, Int.reduceLE, Int.reduceLT, Nat.reduceAdd, Nat.reduceMul, h1, h2, h3]) | (refine WK.condT ?_ ?_; focus (simp only [ev_tmp, ev_const, fset_apply, Nat.reduceEqDiff, ↓reduceIte, decide_true, decide_false, h1, h2, h3]; done)) | (refine WK.condF ?_ ?_; focus (simp only [ev_tmp, ev_const, fset_apply, Nat.reduceEqDiff, ↓reduceIte, decide_true, decide_false, h1, h2, h3]; done)))
 (first | refine WK.retNil ⟨Or.inr rfl, _, rfl, ?_, ?_⟩ | refine WK.skipNil ⟨Or.inl rfl, _, rfl, ?_, ?_⟩)
 ·exact fun _ _ => rfl
 ·simp only [packed, fset_apply, Nat.reduceEqDiff, ↓reduceIte, List.getD_cons_zero, List.getD_cons_succ]
  simp
theorem bool64_gives (b : Bool) (n : Nat) (H : Heap) : Gives Tryz.prog 162 [.bool b] n H fun v n' H' => v = .int .u64 (b.toNat : Int) ∧ n' = n ∧ H' = H := by
 cases b
 ·exact Gives.ev orders oks (k := 50) (by kernel_rfl)
 ·exact Gives.ev orders oks (k := 50) (by kernel_rfl)
theorem booli_gives (b : Bool) (n : Nat) (H : Heap) : Gives Tryz.prog 149 [.bool b] n H fun v n' H' => v = .int .i64 (b.toNat : Int) ∧ n' = n ∧ H' = H := by
 cases b
 ·exact Gives.ev orders oks (k := 50) (by kernel_rfl)
 ·exact Gives.ev orders oks (k := 50) (by kernel_rfl)
theorem shr2 (x : Nat) : (x : Int).fdiv (2 ^ 2) = ((x / 4 : Nat) : Int) := shr_nat x 2
theorem ceil_gives (u : Nat) (h : u + 3 < 18446744073709551616) (n : Nat) (H : Heap) : Gives Tryz.prog 145 [.int .u64 u] n H fun v n' H' => v = .int .u64 (((u + 3) / 4 : Nat) : Int) ∧ n' = n ∧ H' = H := by
 refine Gives.of orders ok145 (Nat.le_of_ble_eq_true rfl) ?_
 have h1 : IntKind.u64.wrap ((u : Int) + 3) = ((u + 3 : Nat) : Int) := wadd u 3 _ rfl h
 have h2 := shr2 (u + 3)
 repeat (first | apply WK.seq | apply WK.block | apply WK.skipSeq | apply WK.skipBlock | apply WK.retSeq | apply WK.retBlock | apply WK.exitSeq | apply WK.exitHere | refine WK.exitOn rfl ?_ | ((first | (refine WK.rgn ?_ ?_; kernel_rfl) | refine AtCall.now ?_); simp (config := { maxSteps := 1000000 }) only [SS, qx8, forall_const, Int.reduceEq, Int.reduceNeg, Nat.reduceGT, Nat.reduceLT, Nat.reduceLeDiff, Nat.reduceEqDiff, ↓reduceIte, reduceCtorEq, Int.reduceToNat, Int.reduceLE, Int.reduceLT, Nat.reduceAdd, Nat.reduceMul, h1, h2, min2]) | (refine WK.condT ?_ ?_; focus (simp only [ev_tmp, ev_const, fset_apply, Nat.reduceEqDiff, ↓reduceIte, decide_true, decide_false, h1, h2, min2]; done)) | (refine WK.condF ?_ ?_; focus (simp only [ev_tmp, ev_const, fset_apply, Nat.reduceEqDiff, ↓reduceIte, decide_true, decide_false, h1, h2, min2]; done)))
 (first | refine WK.retNil ⟨Or.inr rfl, _, rfl, ?_, ?_⟩ | refine WK.skipNil ⟨Or.inl rfl, _, rfl, ?_, ?_⟩)
 ·exact fun _ _ => rfl
 ·simp only [packed, fset_apply, Nat.reduceEqDiff, ↓reduceIte, List.getD_cons_zero, List.getD_cons_succ]
  simp
theorem floor_gives (u : Nat) (h : u < 18446744073709551616) (n : Nat) (H : Heap) : Gives Tryz.prog 146 [.int .u64 u] n H fun v n' H' => v = .int .u64 ((u / 4 : Nat) : Int) ∧ n' = n ∧ H' = H := by
 refine Gives.of orders ok146 (Nat.le_of_ble_eq_true rfl) ?_
 have h1 : IntKind.u64.wrap ((u : Int) + 0) = ((u : Nat) : Int) := wadd u 0 _ rfl h
 have h2 := shr2 u
 repeat (first | apply WK.seq | apply WK.block | apply WK.skipSeq | apply WK.skipBlock | apply WK.retSeq | apply WK.retBlock | apply WK.exitSeq | apply WK.exitHere | refine WK.exitOn rfl ?_ | ((first | (refine WK.rgn ?_ ?_; kernel_rfl) | refine AtCall.now ?_); simp (config := { maxSteps := 1000000 }) only [SS, qx8, forall_const, Int.reduceEq, Int.reduceNeg, Nat.reduceGT, Nat.reduceLT, Nat.reduceLeDiff, Nat.reduceEqDiff, ↓reduceIte, reduceCtorEq, Int.reduceToNat, Int.reduceLE, Int.reduceLT, Nat.reduceAdd, Nat.reduceMul, h1, h2, min2]) | (refine WK.condT ?_ ?_; focus (simp only [ev_tmp, ev_const, fset_apply, Nat.reduceEqDiff, ↓reduceIte, decide_true, decide_false, h1, h2, min2]; done)) | (refine WK.condF ?_ ?_; focus (simp only [ev_tmp, ev_const, fset_apply, Nat.reduceEqDiff, ↓reduceIte, decide_true, decide_false, h1, h2, min2]; done)))
 (first | refine WK.retNil ⟨Or.inr rfl, _, rfl, ?_, ?_⟩ | refine WK.skipNil ⟨Or.inl rfl, _, rfl, ?_, ?_⟩)
 ·exact fun _ _ => rfl
 ·simp only [packed, fset_apply, Nat.reduceEqDiff, ↓reduceIte, List.getD_cons_zero, List.getD_cons_succ]
  simp
theorem nudge_up (u o : Nat) (h : u + o < 18446744073709551616) (n : Nat) (H : Heap) : Gives Tryz.prog 144 [.int .u64 u, .int .i64 (o : Int)] n H fun v n' H' => v = .int .u64 ((u + o : Nat) : Int) ∧ n' = n ∧ H' = H := by
 refine Gives.of orders ok144 (Nat.le_of_ble_eq_true rfl) ?_
 have h0 : IntKind.u64.wrap (o : Int) = (o : Int) := by rw [wrap_u64]; omega
 have h1 : IntKind.u64.wrap ((u : Int) + (o : Int)) = ((u + o : Nat) : Int) := wadd u o _ rfl h
 repeat (first | apply WK.seq | apply WK.block | apply WK.skipSeq | apply WK.skipBlock | apply WK.retSeq | apply WK.retBlock | apply WK.exitSeq | apply WK.exitHere | refine WK.exitOn rfl ?_ | ((first | (refine WK.rgn ?_ ?_; kernel_rfl) | refine AtCall.now ?_); simp (config := { maxSteps := 1000000 }) only [SS, qx8, forall_const, vconv, Int.reduceEq, Int.reduceNeg, Nat.reduceGT, Nat.reduceLT, Nat.reduceLeDiff, Nat.reduceEqDiff, ↓reduceIte, reduceCtorEq, Int.reduceToNat, Int.reduceLE, Int.reduceLT, Nat.reduceAdd, Nat.reduceMul, h0, h1, ff_144]) | (refine WK.condT ?_ ?_; focus (simp only [ev_tmp, ev_const, fset_apply, Nat.reduceEqDiff, ↓reduceIte, decide_true, decide_false, h0, h1, ff_144]; done)) | (refine WK.condF ?_ ?_; focus (simp only [ev_tmp, ev_const, fset_apply, Nat.reduceEqDiff, ↓reduceIte, decide_true, decide_false, h0, h1, ff_144]; done)))
 (first | refine WK.retNil ⟨Or.inr rfl, _, rfl, ?_, ?_⟩ | refine WK.skipNil ⟨Or.inl rfl, _, rfl, ?_, ?_⟩)
 ·exact fun _ _ => rfl
 ·simp only [packed, fset_apply, Nat.reduceEqDiff, ↓reduceIte, List.getD_cons_zero, List.getD_cons_succ, ff_144]
  simp
theorem nudge_down (u o : Nat) (h : u < 18446744073709551616) (ho : o ≤ u) (n : Nat) (H : Heap) : Gives Tryz.prog 144 [.int .u64 u, .int .i64 (-(o : Int))] n H fun v n' H' => v = .int .u64 ((u - o : Nat) : Int) ∧ n' = n ∧ H' = H := by
 refine Gives.of orders ok144 (Nat.le_of_ble_eq_true rfl) ?_
 have h1 : IntKind.u64.wrap ((u : Int) + IntKind.u64.wrap (-(o : Int))) = ((u - o : Nat) : Int) := by rw [wrap_u64, wrap_u64]; omega
 repeat (first | apply WK.seq | apply WK.block | apply WK.skipSeq | apply WK.skipBlock | apply WK.retSeq | apply WK.retBlock | apply WK.exitSeq | apply WK.exitHere | refine WK.exitOn rfl ?_ | ((first | (refine WK.rgn ?_ ?_; kernel_rfl) | refine AtCall.now ?_); simp (config := { maxSteps := 1000000 }) only [SS, qx8, forall_const, vconv, Int.reduceEq, Int.reduceNeg, Nat.reduceGT, Nat.reduceLT, Nat.reduceLeDiff, Nat.reduceEqDiff, ↓reduceIte, reduceCtorEq, Int.reduceToNat, Int.reduceLE, Int.reduceLT, Nat.reduceAdd, Nat.reduceMul, h1, ff_144]) | (refine WK.condT ?_ ?_; focus (simp only [ev_tmp, ev_const, fset_apply, Nat.reduceEqDiff, ↓reduceIte, decide_true, decide_false, h1, ff_144]; done)) | (refine WK.condF ?_ ?_; focus (simp only [ev_tmp, ev_const, fset_apply, Nat.reduceEqDiff, ↓reduceIte, decide_true, decide_false, h1, ff_144]; done)))
 (first | refine WK.retNil ⟨Or.inr rfl, _, rfl, ?_, ?_⟩ | refine WK.skipNil ⟨Or.inl rfl, _, rfl, ?_, ?_⟩)
 ·exact fun _ _ => rfl
 ·simp only [packed, fset_apply, Nat.reduceEqDiff, ↓reduceIte, List.getD_cons_zero, List.getD_cons_succ, ff_144]
  simp
def uscaleS (x hi lo s : Nat) : Nat :=
 if x * hi / 18446744073709551616 / 2 ^ s * 2 ^ s = x * hi / 18446744073709551616 then
  (x * hi / 18446744073709551616 + 18446744073709551616 - (decide (x * hi % 18446744073709551616 < x * lo / 18446744073709551616)).toNat) % 18446744073709551616 / 2 ^ s |||
   (decide (1 < (x * hi % 18446744073709551616 + 18446744073709551616 - x * lo / 18446744073709551616) % 18446744073709551616)).toNat
 else x * hi / 18446744073709551616 / 2 ^ s ||| 1
theorem uscale_gives (x hi lo s : Nat) {y : Nat} (hx : x < 18446744073709551616) (hhi : hi < 18446744073709551616) (hlo : lo < 18446744073709551616) (hs : s < 64) (n : Nat) (H : Heap) {own : Bool} {ty : TypeId}
  (hy : H y = .cells [.int .u64 hi, .int .u64 lo, .int .i64 s] ty own) :
  Gives Tryz.prog 143 [.int .u64 x, .pointer (some ⟨y, 0, none⟩)] n H fun v n' H' => v = .int .u64 (uscaleS x hi lo s : Nat) ∧ n' = n ∧ H' = H := by
 refine Gives.of orders ok143 (Nat.le_of_ble_eq_true rfl) ?_
 have hA : x * hi / 18446744073709551616 < 18446744073709551616 := by
  have := Nat.mul_lt_mul'' hx hhi
  exact Nat.div_lt_of_lt_mul (by omega)
 have hB : x * lo / 18446744073709551616 < 18446744073709551616 := by
  have := Nat.mul_lt_mul'' hx hlo
  exact Nat.div_lt_of_lt_mul (by omega)
 have hM : x * hi % 18446744073709551616 < 18446744073709551616 := Nat.mod_lt _ (by omega)
 have g0 : ([Value.int .u64 (hi : Int), .int .u64 (lo : Int), .int .i64 (s : Int)] : List Value)[0]? = some (.int .u64 hi) := rfl
 have g1 : ([Value.int .u64 (hi : Int), .int .u64 (lo : Int), .int .i64 (s : Int)] : List Value)[1]? = some (.int .u64 lo) := rfl
 have g2 : ([Value.int .u64 (hi : Int), .int .u64 (lo : Int), .int .i64 (s : Int)] : List Value)[2]? = some (.int .i64 s) := rfl
 generalize ([Value.int .u64 (hi : Int), .int .u64 (lo : Int), .int .i64 (s : Int)] : List Value) = cs at *
 have e0 : (0 : Nat) + 0 = 0 := rfl
 have a1 : IntKind.i64.wrap (BitVec.ofInt IntKind.i64.bits (s : Int) &&& BitVec.ofInt IntKind.i64.bits 63).toNat = (s : Int) := by
  have := and_i64 s 63 (by omega) (by omega)
  have h' : IntKind.i64.wrap (BitVec.ofInt IntKind.i64.bits (s : Int) &&& BitVec.ofInt IntKind.i64.bits 63).toNat = ((s &&& 63 : Nat) : Int) := this
  rw [h', show (63 : Nat) = 2 ^ 6 - 1 by rfl, and_mask, Nat.mod_eq_of_lt hs]
 have hneg : ((s : Int) < 0) = False := by simp
 have hmin : min s IntKind.u64.bits = s := by show min s 64 = s; omega
 have hsn : (s : Int).toNat = s := Int.toNat_natCast s
 repeat (first | apply WK.seq | apply WK.block | apply WK.skipSeq | apply WK.skipBlock | apply WK.retSeq | apply WK.retBlock | apply WK.exitSeq | apply WK.exitHere | refine WK.exitOn rfl ?_ | ((first | (refine WK.rgn ?_ ?_; kernel_rfl) | refine AtCall.now ?_); simp (config := { maxSteps := 1000000 }) only [SS, qx24, forall_const, Int.reduceEq, Int.reduceNeg, Nat.reduceGT, Nat.reduceLT, Nat.reduceLeDiff, Nat.reduceEqDiff, ↓reduceIte, reduceCtorEq, Int.reduceToNat, Int.reduceLE, Int.reduceLT, Nat.reduceAdd, Nat.reduceMul, aop_nc, tnc, hy, g0, g1, g2, ff_143]) | (refine WK.condT ?_ ?_; focus (simp only [ev_tmp, ev_const, fset_apply, Nat.reduceEqDiff, ↓reduceIte, decide_true, decide_false, aop_nc, tnc, hy, g0, g1, g2, ff_143]; done)) | (refine WK.condF ?_ ?_; focus (simp only [ev_tmp, ev_const, fset_apply, Nat.reduceEqDiff, ↓reduceIte, decide_true, decide_false, aop_nc, tnc, hy, g0, g1, g2, ff_143]; done)))
 refine AtCall.by (mul64_gives x hi hx hhi _ _) ?_
 rintro v n' H' hk ⟨rfl, rfl, rfl⟩
 generalize hEA : x * hi / 18446744073709551616 = A at *
 generalize hEM : x * hi % 18446744073709551616 = M at *
 have q1 := shr_nat A s
 have q2 : IntKind.u64.wrap (((A / 2 ^ s : Nat) : Int) * 2 ^ s) = ((A / 2 ^ s * 2 ^ s : Nat) : Int) := by
  have h1 : ((A / 2 ^ s : Nat) : Int) * 2 ^ s = ((A / 2 ^ s * 2 ^ s : Nat) : Int) := by simp
  rw [h1, wrap_u64n, Nat.mod_eq_of_lt (Nat.lt_of_le_of_lt (Nat.div_mul_le_self A (2 ^ s)) hA)]
 by_cases h1 : A / 2 ^ s * 2 ^ s = A
 ·have h1' : (((A / 2 ^ s * 2 ^ s : Nat) : Int) = (A : Int)) = True := by simp only [eq_iff_iff, iff_true]; exact_mod_cast h1
  simp (config := { maxSteps := 1000000 }) only [SS, qx24, forall_const, Int.reduceEq, Int.reduceNeg, Nat.reduceGT, Nat.reduceLT, Nat.reduceLeDiff, Nat.reduceEqDiff, ↓reduceIte, reduceCtorEq, Int.reduceToNat, Int.reduceLE, Int.reduceLT, Nat.reduceAdd, Nat.reduceMul, aop_nc, tnc, hy, g0, g1, g2, ff_143]
  repeat (first | apply WK.seq | apply WK.block | apply WK.skipSeq | apply WK.skipBlock | apply WK.retSeq | apply WK.retBlock | apply WK.exitSeq | apply WK.exitHere | refine WK.exitOn rfl ?_ | ((first | (refine WK.rgn ?_ ?_; kernel_rfl) | refine AtCall.now ?_); simp (config := { maxSteps := 1000000 }) only [SS, qx24, forall_const, Int.reduceEq, Int.reduceNeg, Nat.reduceGT, Nat.reduceLT, Nat.reduceLeDiff, Nat.reduceEqDiff, ↓reduceIte, reduceCtorEq, Int.reduceToNat, Int.reduceLE, Int.reduceLT, Nat.reduceAdd, Nat.reduceMul, aop_nc, tnc, hy, g0, g1, g2, a1, hneg, hmin, hsn, q1, q2, h1', Bool.not_true, ff_143]) | (refine WK.condT ?_ ?_; focus (simp only [ev_tmp, ev_const, fset_apply, Nat.reduceEqDiff, ↓reduceIte, decide_true, decide_false, aop_nc, tnc, hy, g0, g1, g2, a1, hneg, hmin, hsn, q1, q2, h1', Bool.not_true, ff_143]; done)) | (refine WK.condF ?_ ?_; focus (simp only [ev_tmp, ev_const, fset_apply, Nat.reduceEqDiff, ↓reduceIte, decide_true, decide_false, aop_nc, tnc, hy, g0, g1, g2, a1, hneg, hmin, hsn, q1, q2, h1', Bool.not_true, ff_143]; done)))
  refine AtCall.by (mul64_gives x lo hx hlo _ _) ?_
  rintro v n' H' hk ⟨rfl, rfl, rfl⟩
  generalize hEB : x * lo / 18446744073709551616 = B at *
  simp (config := { maxSteps := 1000000 }) only [SS, qx24, forall_const, Int.reduceEq, Int.reduceNeg, Nat.reduceGT, Nat.reduceLT, Nat.reduceLeDiff, Nat.reduceEqDiff, ↓reduceIte, reduceCtorEq, Int.reduceToNat, Int.reduceLE, Int.reduceLT, Nat.reduceAdd, Nat.reduceMul, aop_nc, tnc, hy, g0, g1, g2, ff_143]
  repeat (first | apply WK.seq | apply WK.block | apply WK.skipSeq | apply WK.skipBlock | apply WK.retSeq | apply WK.retBlock | apply WK.exitSeq | apply WK.exitHere | refine WK.exitOn rfl ?_ | ((first | (refine WK.rgn ?_ ?_; kernel_rfl) | refine AtCall.now ?_); simp (config := { maxSteps := 1000000 }) only [SS, qx24, forall_const, Int.reduceEq, Int.reduceNeg, Nat.reduceGT, Nat.reduceLT, Nat.reduceLeDiff, Nat.reduceEqDiff, ↓reduceIte, reduceCtorEq, Int.reduceToNat, Int.reduceLE, Int.reduceLT, Nat.reduceAdd, Nat.reduceMul, aop_nc, tnc, hy, g0, g1, g2, a1, hneg, hmin, hsn, q1, q2, ff_143]) | (refine WK.condT ?_ ?_; focus (simp only [ev_tmp, ev_const, fset_apply, Nat.reduceEqDiff, ↓reduceIte, decide_true, decide_false, aop_nc, tnc, hy, g0, g1, g2, a1, hneg, hmin, hsn, q1, q2, ff_143]; done)) | (refine WK.condF ?_ ?_; focus (simp only [ev_tmp, ev_const, fset_apply, Nat.reduceEqDiff, ↓reduceIte, decide_true, decide_false, aop_nc, tnc, hy, g0, g1, g2, a1, hneg, hmin, hsn, q1, q2, ff_143]; done)))
  refine AtCall.by (bool64_gives _ _ _) ?_
  rintro v n' H' hk ⟨rfl, rfl, rfl⟩
  have c1 : decide ((M : Int) < (B : Int)) = decide (M < B) := by simp
  try rw [c1]
  have q3 : IntKind.u64.wrap ((A : Int) - ((decide (M < B)).toNat : Int)) = (((A + 18446744073709551616 - (decide (M < B)).toNat) % 18446744073709551616 : Nat) : Int) := by
   rw [wrap_u64]
   have : (decide (M < B)).toNat ≤ 1 := by cases decide (M < B) <;> simp
   omega
  have q4 := shr_nat ((A + 18446744073709551616 - (decide (M < B)).toNat) % 18446744073709551616) s
  have q5 : IntKind.u64.wrap ((M : Int) - (B : Int)) = (((M + 18446744073709551616 - B) % 18446744073709551616 : Nat) : Int) := by
   rw [wrap_u64]; omega
  simp (config := { maxSteps := 1000000 }) only [SS, qx24, forall_const, Int.reduceEq, Int.reduceNeg, Nat.reduceGT, Nat.reduceLT, Nat.reduceLeDiff, Nat.reduceEqDiff, ↓reduceIte, reduceCtorEq, Int.reduceToNat, Int.reduceLE, Int.reduceLT, Nat.reduceAdd, Nat.reduceMul, q3, ff_143]
  repeat (first | apply WK.seq | apply WK.block | apply WK.skipSeq | apply WK.skipBlock | apply WK.retSeq | apply WK.retBlock | apply WK.exitSeq | apply WK.exitHere | refine WK.exitOn rfl ?_ | ((first | (refine WK.rgn ?_ ?_; kernel_rfl) | refine AtCall.now ?_); simp (config := { maxSteps := 1000000 }) only [SS, qx24, forall_const, Int.reduceEq, Int.reduceNeg, Nat.reduceGT, Nat.reduceLT, Nat.reduceLeDiff, Nat.reduceEqDiff, ↓reduceIte, reduceCtorEq, Int.reduceToNat, Int.reduceLE, Int.reduceLT, Nat.reduceAdd, Nat.reduceMul, hneg, hmin, hsn, q4, q5, ff_143]) | (refine WK.condT ?_ ?_; focus (simp only [ev_tmp, ev_const, fset_apply, Nat.reduceEqDiff, ↓reduceIte, decide_true, decide_false, hneg, hmin, hsn, q4, q5, ff_143]; done)) | (refine WK.condF ?_ ?_; focus (simp only [ev_tmp, ev_const, fset_apply, Nat.reduceEqDiff, ↓reduceIte, decide_true, decide_false, hneg, hmin, hsn, q4, q5, ff_143]; done)))
  refine AtCall.by (bool64_gives _ _ _) ?_
  rintro v n' H' hk ⟨rfl, rfl, rfl⟩
  have c2 : decide ((1 : Int) < (((M + 18446744073709551616 - B) % 18446744073709551616 : Nat) : Int)) = decide (1 < (M + 18446744073709551616 - B) % 18446744073709551616) := by
   rw [decide_eq_decide]; omega
  try rw [c2]
  have q6 := or_u64 ((A + 18446744073709551616 - (decide (M < B)).toNat) % 18446744073709551616 / 2 ^ s) (decide (1 < (M + 18446744073709551616 - B) % 18446744073709551616)).toNat
   (Nat.lt_of_le_of_lt (Nat.div_le_self _ _) (Nat.mod_lt _ (by omega))) (by cases decide (1 < (M + 18446744073709551616 - B) % 18446744073709551616) <;> simp)
  simp (config := { maxSteps := 1000000 }) only [SS, qx24, forall_const, Int.reduceEq, Int.reduceNeg, Nat.reduceGT, Nat.reduceLT, Nat.reduceLeDiff, Nat.reduceEqDiff, ↓reduceIte, reduceCtorEq, Int.reduceToNat, Int.reduceLE, Int.reduceLT, Nat.reduceAdd, Nat.reduceMul, q6, ff_143]
  repeat (first | apply WK.seq | apply WK.block | apply WK.skipSeq | apply WK.skipBlock | apply WK.retSeq | apply WK.retBlock | apply WK.exitSeq | apply WK.exitHere | refine WK.exitOn rfl ?_ | ((first | (refine WK.rgn ?_ ?_; kernel_rfl) | refine AtCall.now ?_); simp (config := { maxSteps := 1000000 }) only [SS, qx24, forall_const, Int.reduceEq, Int.reduceNeg, Nat.reduceGT, Nat.reduceLT, Nat.reduceLeDiff, Nat.reduceEqDiff, ↓reduceIte, reduceCtorEq, Int.reduceToNat, Int.reduceLE, Int.reduceLT, Nat.reduceAdd, Nat.reduceMul, q6, ff_143]) | (refine WK.condT ?_ ?_; focus (simp only [ev_tmp, ev_const, fset_apply, Nat.reduceEqDiff, ↓reduceIte, decide_true, decide_false, q6, ff_143]; done)) | (refine WK.condF ?_ ?_; focus (simp only [ev_tmp, ev_const, fset_apply, Nat.reduceEqDiff, ↓reduceIte, decide_true, decide_false, q6, ff_143]; done)))
  (first | refine WK.retNil ⟨Or.inr rfl, _, rfl, ?_, ?_⟩ | refine WK.skipNil ⟨Or.inl rfl, _, rfl, ?_, ?_⟩)
  ·exact fun _ _ => rfl
  ·simp only [packed, fset_apply, Nat.reduceEqDiff, ↓reduceIte, List.getD_cons_zero, List.getD_cons_succ, ff_143]
   unfold uscaleS
   rw [hEA, hEM, hEB, if_pos h1]
   simp
 ·have h1' : (((A / 2 ^ s * 2 ^ s : Nat) : Int) = (A : Int)) = False := by simp only [eq_iff_iff, iff_false]; intro e; exact h1 (by exact_mod_cast e)
  have q6 : IntKind.u64.wrap (BitVec.ofInt IntKind.u64.bits ((A / 2 ^ s : Nat) : Int) ||| BitVec.ofInt IntKind.u64.bits 1).toNat = ((A / 2 ^ s ||| 1 : Nat) : Int) := or_u64 (A / 2 ^ s) 1 (Nat.lt_of_le_of_lt (Nat.div_le_self _ _) hA) (by omega)
  simp (config := { maxSteps := 1000000 }) only [SS, qx24, forall_const, Int.reduceEq, Int.reduceNeg, Nat.reduceGT, Nat.reduceLT, Nat.reduceLeDiff, Nat.reduceEqDiff, ↓reduceIte, reduceCtorEq, Int.reduceToNat, Int.reduceLE, Int.reduceLT, Nat.reduceAdd, Nat.reduceMul, aop_nc, tnc, hy, g0, g1, g2, ff_143]
  repeat (first | apply WK.seq | apply WK.block | apply WK.skipSeq | apply WK.skipBlock | apply WK.retSeq | apply WK.retBlock | apply WK.exitSeq | apply WK.exitHere | refine WK.exitOn rfl ?_ | ((first | (refine WK.rgn ?_ ?_; kernel_rfl) | refine AtCall.now ?_); simp (config := { maxSteps := 1000000 }) only [SS, qx24, forall_const, Int.reduceEq, Int.reduceNeg, Nat.reduceGT, Nat.reduceLT, Nat.reduceLeDiff, Nat.reduceEqDiff, ↓reduceIte, reduceCtorEq, Int.reduceToNat, Int.reduceLE, Int.reduceLT, Nat.reduceAdd, Nat.reduceMul, aop_nc, tnc, hy, g0, g1, g2, a1, hneg, hmin, hsn, q1, q2, h1', q6, Bool.not_false, ff_143]) | (refine WK.condT ?_ ?_; focus (simp only [ev_tmp, ev_const, fset_apply, Nat.reduceEqDiff, ↓reduceIte, decide_true, decide_false, aop_nc, tnc, hy, g0, g1, g2, a1, hneg, hmin, hsn, q1, q2, h1', q6, Bool.not_false, ff_143]; done)) | (refine WK.condF ?_ ?_; focus (simp only [ev_tmp, ev_const, fset_apply, Nat.reduceEqDiff, ↓reduceIte, decide_true, decide_false, aop_nc, tnc, hy, g0, g1, g2, a1, hneg, hmin, hsn, q1, q2, h1', q6, Bool.not_false, ff_143]; done)))
  (first | refine WK.retNil ⟨Or.inr rfl, _, rfl, ?_, ?_⟩ | refine WK.skipNil ⟨Or.inl rfl, _, rfl, ?_, ?_⟩)
  ·exact fun _ _ => rfl
  ·simp only [packed, fset_apply, Nat.reduceEqDiff, ↓reduceIte, List.getD_cons_zero, List.getD_cons_succ, ff_143]
   unfold uscaleS
   rw [hEA, if_neg h1]
   simp
end Go.Proofs.YtihjaobjhmmboaaGreatDoor

namespace Go.Proofs.YtihjaobjhmmboaaGreatDoor
open Go.AM
set_option maxRecDepth 100000
theorem ev_global' {f : Fr} (g : Nat) : evalA f (.global g) = .pointer (some ⟨g, 0, none⟩) := rfl
def numD (d : Nat) : Nat := lenN d * 78913 / 262144 + if 10 ^ (lenN d * 78913 / 262144) ≤ d then 1 else 0
theorem numD_tab : ((List.range 64).all fun L => decide (10 ^ (L * 78913 / 262144) ≤ 2 ^ L ∧ 2 ^ L < 10 ^ (L * 78913 / 262144 + 1) ∧ L * 78913 / 262144 ≤ 18)) = true := by kernel_rfl
theorem numD_at {L : Nat} (h : L < 64) : 10 ^ (L * 78913 / 262144) ≤ 2 ^ L ∧ 2 ^ L < 10 ^ (L * 78913 / 262144 + 1) ∧ L * 78913 / 262144 ≤ 18 := by
 have := List.all_eq_true.1 numD_tab L (by simpa using h)
 exact of_decide_eq_true this
theorem numD_spec {d : Nat} (h : d ≠ 0) (hd : d < 9223372036854775808) : 10 ^ (numD d - 1) ≤ d ∧ d < 10 ^ numD d ∧ 1 ≤ numD d ∧ numD d ≤ 19 := by
 have hL : lenN d < 64 := by have := lenN_le d 63 hd; omega
 obtain ⟨a, b, c⟩ := numD_at hL
 obtain ⟨e, f⟩ := lenN_spec d h
 have hl1 : 1 ≤ lenN d := by unfold lenN; rw [if_neg h]; omega
 have h2 : 2 ^ lenN d = 2 * 2 ^ (lenN d - 1) := by
  rw [← Nat.pow_succ']; congr 1; omega
 unfold numD
 generalize lenN d * 78913 / 262144 = N at *
 by_cases hc : 10 ^ N ≤ d
 ·rw [if_pos hc]
  refine ⟨by simpa using hc, by omega, by omega, by omega⟩
 ·rw [if_neg hc]
  cases N with
  | zero => simp at hc; omega
  | succ N =>
   refine ⟨?_, by simpa using Nat.lt_of_not_le hc, by omega, by omega⟩
   simp only [Nat.add_zero, Nat.add_sub_cancel]
   have : 10 ^ (N + 1) = 10 * 10 ^ N := Nat.pow_succ'
   omega
def isTen (i : Nat) (v : Option Value) : Bool := match v with
 | some (.int .u64 z) => z == ((10 ^ i : Nat) : Int)
 | _ => false
theorem tens_tab : ((List.range 19).all fun i => isTen i tens[i]?) = true := by kernel_rfl
theorem tens_at {i : Nat} (h : i < 19) : tens[i]? = some (.int .u64 ((10 ^ i : Nat) : Int)) := by
 have := List.all_eq_true.1 tens_tab i (by simpa using h)
 generalize tens[i]? = o at this
 unfold isTen at this
 split at this
 ·rename_i z
  have e : z = ((10 ^ i : Nat) : Int) := by simpa using this
  rw [e]
 ·cases this
theorem digits_gives (d : Nat) (hd : d < 9223372036854775808) {n : Nat} {H : Heap} (h3 : H 3 = .cells tens 168 false) :
  Gives Tryz.prog 125 [.int .u64 d] n H fun v n' H' => v = .int .i64 (numD d : Nat) ∧ n' = n ∧ H' = H := by
 refine Gives.of orders ok125 (Nat.le_of_ble_eq_true rfl) ?_
 have hl := lenN_le d 63 hd
 obtain ⟨_, _, hN⟩ := numD_at (L := lenN d) (by omega)
 have e1 : (((lenN d : Nat) : Int) * 78913).fdiv (2 ^ 18) = ((lenN d * 78913 / 262144 : Nat) : Int) := by
  have : ((lenN d : Nat) : Int) * 78913 = ((lenN d * 78913 : Nat) : Int) := by simp
  rw [this]; exact shr_nat _ 18
 have ht := tens_at (i := lenN d * 78913 / 262144) (by omega)
 have hnum : numD d = lenN d * 78913 / 262144 + if 10 ^ (lenN d * 78913 / 262144) ≤ d then 1 else 0 := rfl
 repeat (first | apply WK.seq | apply WK.block | apply WK.skipSeq | apply WK.skipBlock | apply WK.retSeq | apply WK.retBlock | apply WK.exitSeq | apply WK.exitHere | refine WK.exitOn rfl ?_ | ((first | (refine WK.rgn ?_ ?_; kernel_rfl) | refine AtCall.now ?_); simp (config := { maxSteps := 1000000 }) only [SS, qx33, forall_const, Int.reduceEq, Int.reduceNeg, Nat.reduceGT, Nat.reduceLT, Nat.reduceLeDiff, Nat.reduceEqDiff, ↓reduceIte, reduceCtorEq, Int.reduceToNat, Int.reduceLE, Int.reduceLT, Nat.reduceAdd, Nat.reduceMul, ff_125]) | (refine WK.condT ?_ ?_; focus (simp only [ev_tmp, ev_const, fset_apply, Nat.reduceEqDiff, ↓reduceIte, decide_true, decide_false, ff_125]; done)) | (refine WK.condF ?_ ?_; focus (simp only [ev_tmp, ev_const, fset_apply, Nat.reduceEqDiff, ↓reduceIte, decide_true, decide_false, ff_125]; done)))
 refine AtCall.by (len_gives d (by omega) _ _) ?_
 rintro v n' H' hk ⟨rfl, rfl, rfl⟩
 simp (config := { maxSteps := 1000000 }) only [SS, qx33, forall_const, Int.reduceEq, Int.reduceNeg, Nat.reduceGT, Nat.reduceLT, Nat.reduceLeDiff, Nat.reduceEqDiff, ↓reduceIte, reduceCtorEq, Int.reduceToNat, Int.reduceLE, Int.reduceLT, Nat.reduceAdd, Nat.reduceMul, ff_125]
 refine AtCall.by (log10_gives _ (by omega) _ _) ?_
 rintro v n' H' hk ⟨rfl, rfl, rfl⟩
 rw [e1]
 generalize lenN d * 78913 / 262144 = N at *
 have hN0 : (0 : Int) ≤ (N : Int) ∧ (N : Int) < ((20 : Nat) : Int) := by omega
 have hNn : (N : Int).toNat = N := Int.toNat_natCast N
 generalize tens = ts at *
 simp (config := { maxSteps := 1000000 }) only [SS, qx33, forall_const, Int.reduceEq, Int.reduceNeg, Nat.reduceGT, Nat.reduceLT, Nat.reduceLeDiff, Nat.reduceEqDiff, ↓reduceIte, reduceCtorEq, Int.reduceToNat, Int.reduceLE, Int.reduceLT, Nat.reduceAdd, Nat.reduceMul, ff_125]
 repeat (first | apply WK.seq | apply WK.block | apply WK.skipSeq | apply WK.skipBlock | apply WK.retSeq | apply WK.retBlock | apply WK.exitSeq | apply WK.exitHere | refine WK.exitOn rfl ?_ | ((first | (refine WK.rgn ?_ ?_; kernel_rfl) | refine AtCall.now ?_); simp (config := { maxSteps := 1000000 }) only [SS, qx33, forall_const, Int.reduceEq, Int.reduceNeg, Nat.reduceGT, Nat.reduceLT, Nat.reduceLeDiff, Nat.reduceEqDiff, ↓reduceIte, reduceCtorEq, Int.reduceToNat, Int.reduceLE, Int.reduceLT, Nat.reduceAdd, Nat.reduceMul, ev_global', h3, hN0, hNn, ht, ff_125]) | (refine WK.condT ?_ ?_; focus (simp only [ev_tmp, ev_const, fset_apply, Nat.reduceEqDiff, ↓reduceIte, decide_true, decide_false, ev_global', h3, hN0, hNn, ht, ff_125]; done)) | (refine WK.condF ?_ ?_; focus (simp only [ev_tmp, ev_const, fset_apply, Nat.reduceEqDiff, ↓reduceIte, decide_true, decide_false, ev_global', h3, hN0, hNn, ht, ff_125]; done)))
 refine AtCall.by (booli_gives _ _ _) ?_
 rintro v n' H' hk ⟨rfl, rfl, rfl⟩
 have hw : ∀ b : Bool, IntKind.i64.wrap ((N : Int) + (b.toNat : Int)) = ((N + b.toNat : Nat) : Int) := fun b => by
  have : b.toNat ≤ 1 := by cases b <;> simp
  rw [wrap_in (by omega) (by omega)]; simp
 simp (config := { maxSteps := 1000000 }) only [SS, qx33, forall_const, Int.reduceEq, Int.reduceNeg, Nat.reduceGT, Nat.reduceLT, Nat.reduceLeDiff, Nat.reduceEqDiff, ↓reduceIte, reduceCtorEq, Int.reduceToNat, Int.reduceLE, Int.reduceLT, Nat.reduceAdd, Nat.reduceMul, hw, ff_125]
 repeat (first | apply WK.seq | apply WK.block | apply WK.skipSeq | apply WK.skipBlock | apply WK.retSeq | apply WK.retBlock | apply WK.exitSeq | apply WK.exitHere | refine WK.exitOn rfl ?_ | ((first | (refine WK.rgn ?_ ?_; kernel_rfl) | refine AtCall.now ?_); simp (config := { maxSteps := 1000000 }) only [SS, qx33, forall_const, Int.reduceEq, Int.reduceNeg, Nat.reduceGT, Nat.reduceLT, Nat.reduceLeDiff, Nat.reduceEqDiff, ↓reduceIte, reduceCtorEq, Int.reduceToNat, Int.reduceLE, Int.reduceLT, Nat.reduceAdd, Nat.reduceMul, hw, ff_125]) | (refine WK.condT ?_ ?_; focus (simp only [ev_tmp, ev_const, fset_apply, Nat.reduceEqDiff, ↓reduceIte, decide_true, decide_false, hw, ff_125]; done)) | (refine WK.condF ?_ ?_; focus (simp only [ev_tmp, ev_const, fset_apply, Nat.reduceEqDiff, ↓reduceIte, decide_true, decide_false, hw, ff_125]; done)))
 (first | refine WK.retNil ⟨Or.inr rfl, _, rfl, ?_, ?_⟩ | refine WK.skipNil ⟨Or.inl rfl, _, rfl, ?_, ?_⟩)
 ·exact fun _ _ => rfl
 ·simp only [packed, fset_apply, Nat.reduceEqDiff, ↓reduceIte, List.getD_cons_zero, List.getD_cons_succ, ff_125]
  rw [hnum]
  by_cases hc : 10 ^ N ≤ d
  ·simp [hc]
  ·simp [hc]
end Go.Proofs.YtihjaobjhmmboaaGreatDoor
