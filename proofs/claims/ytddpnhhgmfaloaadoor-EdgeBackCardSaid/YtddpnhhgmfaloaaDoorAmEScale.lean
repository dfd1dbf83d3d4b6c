/- A part of a proof. Its conditions: none. -/
import Derived.Test.YtddpnhhgmfaloaaDoorAmEMul
set_option linter.all false
namespace Go.Proofs.YtddpnhhgmfaloaaDoor
open Go.AM
set_option maxRecDepth 100000

theorem log10_gives (x : Int) (h : -100000 ≤ x ∧ x ≤ 100000) (n : Nat) (H : Heap) : Gives Tryd.prog 66 [.int .i64 x] n H fun v n' H' => v = .int .i64 ((x * 78913).fdiv (2 ^ 18)) ∧ n' = n ∧ H' = H := by
  refine Gives.of orders ok66 (Nat.le_of_ble_eq_true rfl) ?_
  have h1 : IntKind.i64.wrap (x * 78913) = x * 78913 := wrap_in (by omega) (by omega)
  have h2 : min 18 IntKind.i64.bits = 18 := rfl
-- function 66
  repeat (first | apply WK.seq | apply WK.block | apply WK.skipSeq | apply WK.skipBlock | apply WK.retSeq | apply WK.retBlock | apply WK.exitSeq | apply WK.exitHere | refine WK.exitOn rfl ?_ | ((first | (refine WK.rgn ?_ ?_; kernel_rfl) | refine AtCall.now ?_); simp (config := { maxSteps := 1000000 }) only [SS, forall_const, wx, tguard, acallee, top, tval, fput, tor, vsh, vbin, Int.reduceEq, Int.reduceNeg, Nat.reduceGT, Nat.reduceLT, Nat.reduceLeDiff, Nat.reduceEqDiff, ↓reduceIte, reduceCtorEq, Int.reduceToNat, Int.reduceLE, Int.reduceLT, Nat.reduceAdd, Nat.reduceMul, h1, h2]) | (refine WK.condT ?_ ?_; focus (simp only [ev_tmp, ev_const, fset_apply, Nat.reduceEqDiff, ↓reduceIte, decide_true, decide_false, h1, h2]; done)) | (refine WK.condF ?_ ?_; focus (simp only [ev_tmp, ev_const, fset_apply, Nat.reduceEqDiff, ↓reduceIte, decide_true, decide_false, h1, h2]; done)))
  (first | refine WK.retNil ⟨Or.inr rfl, _, rfl, ?_, ?_⟩ | refine WK.skipNil ⟨Or.inl rfl, _, rfl, ?_, ?_⟩)
  · exact fun _ _ => rfl
  · simp only [packed, fset_apply, Nat.reduceEqDiff, ↓reduceIte, List.getD_cons_zero, List.getD_cons_succ]
    simp
theorem log2_gives (x : Int) (h : -100000 ≤ x ∧ x ≤ 100000) (n : Nat) (H : Heap) : Gives Tryd.prog 79 [.int .i64 x] n H fun v n' H' => v = .int .i64 ((x * 108853).fdiv (2 ^ 15)) ∧ n' = n ∧ H' = H := by
  refine Gives.of orders ok79 (Nat.le_of_ble_eq_true rfl) ?_
  have h1 : IntKind.i64.wrap (x * 108853) = x * 108853 := wrap_in (by omega) (by omega)
  have h2 : min 15 IntKind.i64.bits = 15 := rfl
-- function 79
  repeat (first | apply WK.seq | apply WK.block | apply WK.skipSeq | apply WK.skipBlock | apply WK.retSeq | apply WK.retBlock | apply WK.exitSeq | apply WK.exitHere | refine WK.exitOn rfl ?_ | ((first | (refine WK.rgn ?_ ?_; kernel_rfl) | refine AtCall.now ?_); simp (config := { maxSteps := 1000000 }) only [SS, forall_const, wx, tguard, acallee, top, tval, fput, tor, vsh, vbin, Int.reduceEq, Int.reduceNeg, Nat.reduceGT, Nat.reduceLT, Nat.reduceLeDiff, Nat.reduceEqDiff, ↓reduceIte, reduceCtorEq, Int.reduceToNat, Int.reduceLE, Int.reduceLT, Nat.reduceAdd, Nat.reduceMul, h1, h2]) | (refine WK.condT ?_ ?_; focus (simp only [ev_tmp, ev_const, fset_apply, Nat.reduceEqDiff, ↓reduceIte, decide_true, decide_false, h1, h2]; done)) | (refine WK.condF ?_ ?_; focus (simp only [ev_tmp, ev_const, fset_apply, Nat.reduceEqDiff, ↓reduceIte, decide_true, decide_false, h1, h2]; done)))
  (first | refine WK.retNil ⟨Or.inr rfl, _, rfl, ?_, ?_⟩ | refine WK.skipNil ⟨Or.inl rfl, _, rfl, ?_, ?_⟩)
  · exact fun _ _ => rfl
  · simp only [packed, fset_apply, Nat.reduceEqDiff, ↓reduceIte, List.getD_cons_zero, List.getD_cons_succ]
    simp
theorem skewed_gives (x : Int) (h : -100000 ≤ x ∧ x ≤ 100000) (n : Nat) (H : Heap) : Gives Tryd.prog 77 [.int .i64 x] n H fun v n' H' => v = .int .i64 ((x * 631305 - 261663).fdiv (2 ^ 21)) ∧ n' = n ∧ H' = H := by
  refine Gives.of orders ok77 (Nat.le_of_ble_eq_true rfl) ?_
  have h1 : IntKind.i64.wrap (x * 631305) = x * 631305 := wrap_in (by omega) (by omega)
  have h3 : IntKind.i64.wrap (x * 631305 - 261663) = x * 631305 - 261663 := wrap_in (by omega) (by omega)
  have h2 : min 21 IntKind.i64.bits = 21 := rfl
-- function 77
  repeat (first | apply WK.seq | apply WK.block | apply WK.skipSeq | apply WK.skipBlock | apply WK.retSeq | apply WK.retBlock | apply WK.exitSeq | apply WK.exitHere | refine WK.exitOn rfl ?_ | ((first | (refine WK.rgn ?_ ?_; kernel_rfl) | refine AtCall.now ?_); simp (config := { maxSteps := 1000000 }) only [SS, forall_const, wx, tguard, acallee, top, tval, fput, tor, vsh, vbin, Int.reduceEq, Int.reduceNeg, Nat.reduceGT, Nat.reduceLT, Nat.reduceLeDiff, Nat.reduceEqDiff, ↓reduceIte, reduceCtorEq, Int.reduceToNat, Int.reduceLE, Int.reduceLT, Nat.reduceAdd, Nat.reduceMul, h1, h2, h3]) | (refine WK.condT ?_ ?_; focus (simp only [ev_tmp, ev_const, fset_apply, Nat.reduceEqDiff, ↓reduceIte, decide_true, decide_false, h1, h2, h3]; done)) | (refine WK.condF ?_ ?_; focus (simp only [ev_tmp, ev_const, fset_apply, Nat.reduceEqDiff, ↓reduceIte, decide_true, decide_false, h1, h2, h3]; done)))
  (first | refine WK.retNil ⟨Or.inr rfl, _, rfl, ?_, ?_⟩ | refine WK.skipNil ⟨Or.inl rfl, _, rfl, ?_, ?_⟩)
  · exact fun _ _ => rfl
  · simp only [packed, fset_apply, Nat.reduceEqDiff, ↓reduceIte, List.getD_cons_zero, List.getD_cons_succ]
    simp
theorem bool64_gives (b : Bool) (n : Nat) (H : Heap) : Gives Tryd.prog 97 [.bool b] n H fun v n' H' => v = .int .u64 (b.toNat : Int) ∧ n' = n ∧ H' = H := by
  cases b
  · exact Gives.ev orders oks (k := 50) (by kernel_rfl)
  · exact Gives.ev orders oks (k := 50) (by kernel_rfl)
theorem booli_gives (b : Bool) (n : Nat) (H : Heap) : Gives Tryd.prog 86 [.bool b] n H fun v n' H' => v = .int .i64 (b.toNat : Int) ∧ n' = n ∧ H' = H := by
  cases b
  · exact Gives.ev orders oks (k := 50) (by kernel_rfl)
  · exact Gives.ev orders oks (k := 50) (by kernel_rfl)

theorem shr2 (x : Nat) : (x : Int).fdiv (2 ^ 2) = ((x / 4 : Nat) : Int) := shr_nat x 2
theorem ceil_gives (u : Nat) (h : u + 3 < 18446744073709551616) (n : Nat) (H : Heap) : Gives Tryd.prog 82 [.int .u64 u] n H fun v n' H' => v = .int .u64 (((u + 3) / 4 : Nat) : Int) ∧ n' = n ∧ H' = H := by
  refine Gives.of orders ok82 (Nat.le_of_ble_eq_true rfl) ?_
  have h1 : IntKind.u64.wrap ((u : Int) + 3) = ((u + 3 : Nat) : Int) := wadd u 3 _ rfl h
  have h2 := shr2 (u + 3)
-- function 82
  repeat (first | apply WK.seq | apply WK.block | apply WK.skipSeq | apply WK.skipBlock | apply WK.retSeq | apply WK.retBlock | apply WK.exitSeq | apply WK.exitHere | refine WK.exitOn rfl ?_ | ((first | (refine WK.rgn ?_ ?_; kernel_rfl) | refine AtCall.now ?_); simp (config := { maxSteps := 1000000 }) only [SS, forall_const, wx, tguard, acallee, top, tval, fput, tor, vsh, vbin, Int.reduceEq, Int.reduceNeg, Nat.reduceGT, Nat.reduceLT, Nat.reduceLeDiff, Nat.reduceEqDiff, ↓reduceIte, reduceCtorEq, Int.reduceToNat, Int.reduceLE, Int.reduceLT, Nat.reduceAdd, Nat.reduceMul, h1, h2, min2]) | (refine WK.condT ?_ ?_; focus (simp only [ev_tmp, ev_const, fset_apply, Nat.reduceEqDiff, ↓reduceIte, decide_true, decide_false, h1, h2, min2]; done)) | (refine WK.condF ?_ ?_; focus (simp only [ev_tmp, ev_const, fset_apply, Nat.reduceEqDiff, ↓reduceIte, decide_true, decide_false, h1, h2, min2]; done)))
  (first | refine WK.retNil ⟨Or.inr rfl, _, rfl, ?_, ?_⟩ | refine WK.skipNil ⟨Or.inl rfl, _, rfl, ?_, ?_⟩)
  · exact fun _ _ => rfl
  · simp only [packed, fset_apply, Nat.reduceEqDiff, ↓reduceIte, List.getD_cons_zero, List.getD_cons_succ]
    simp
theorem floor_gives (u : Nat) (h : u < 18446744073709551616) (n : Nat) (H : Heap) : Gives Tryd.prog 83 [.int .u64 u] n H fun v n' H' => v = .int .u64 ((u / 4 : Nat) : Int) ∧ n' = n ∧ H' = H := by
  refine Gives.of orders ok83 (Nat.le_of_ble_eq_true rfl) ?_
  have h1 : IntKind.u64.wrap ((u : Int) + 0) = ((u : Nat) : Int) := wadd u 0 _ rfl h
  have h2 := shr2 u
-- function 83
  repeat (first | apply WK.seq | apply WK.block | apply WK.skipSeq | apply WK.skipBlock | apply WK.retSeq | apply WK.retBlock | apply WK.exitSeq | apply WK.exitHere | refine WK.exitOn rfl ?_ | ((first | (refine WK.rgn ?_ ?_; kernel_rfl) | refine AtCall.now ?_); simp (config := { maxSteps := 1000000 }) only [SS, forall_const, wx, tguard, acallee, top, tval, fput, tor, vsh, vbin, Int.reduceEq, Int.reduceNeg, Nat.reduceGT, Nat.reduceLT, Nat.reduceLeDiff, Nat.reduceEqDiff, ↓reduceIte, reduceCtorEq, Int.reduceToNat, Int.reduceLE, Int.reduceLT, Nat.reduceAdd, Nat.reduceMul, h1, h2, min2]) | (refine WK.condT ?_ ?_; focus (simp only [ev_tmp, ev_const, fset_apply, Nat.reduceEqDiff, ↓reduceIte, decide_true, decide_false, h1, h2, min2]; done)) | (refine WK.condF ?_ ?_; focus (simp only [ev_tmp, ev_const, fset_apply, Nat.reduceEqDiff, ↓reduceIte, decide_true, decide_false, h1, h2, min2]; done)))
  (first | refine WK.retNil ⟨Or.inr rfl, _, rfl, ?_, ?_⟩ | refine WK.skipNil ⟨Or.inl rfl, _, rfl, ?_, ?_⟩)
  · exact fun _ _ => rfl
  · simp only [packed, fset_apply, Nat.reduceEqDiff, ↓reduceIte, List.getD_cons_zero, List.getD_cons_succ]
    simp
theorem nudge_up (u o : Nat) (h : u + o < 18446744073709551616) (n : Nat) (H : Heap) : Gives Tryd.prog 81 [.int .u64 u, .int .i64 (o : Int)] n H fun v n' H' => v = .int .u64 ((u + o : Nat) : Int) ∧ n' = n ∧ H' = H := by
  refine Gives.of orders ok81 (Nat.le_of_ble_eq_true rfl) ?_
  have h0 : IntKind.u64.wrap (o : Int) = (o : Int) := by rw [wrap_u64]; omega
  have h1 : IntKind.u64.wrap ((u : Int) + (o : Int)) = ((u + o : Nat) : Int) := wadd u o _ rfl h
-- function 81
  repeat (first | apply WK.seq | apply WK.block | apply WK.skipSeq | apply WK.skipBlock | apply WK.retSeq | apply WK.retBlock | apply WK.exitSeq | apply WK.exitHere | refine WK.exitOn rfl ?_ | ((first | (refine WK.rgn ?_ ?_; kernel_rfl) | refine AtCall.now ?_); simp (config := { maxSteps := 1000000 }) only [SS, forall_const, wx, tguard, acallee, top, tval, fput, tor, vsh, vbin, vconv, Int.reduceEq, Int.reduceNeg, Nat.reduceGT, Nat.reduceLT, Nat.reduceLeDiff, Nat.reduceEqDiff, ↓reduceIte, reduceCtorEq, Int.reduceToNat, Int.reduceLE, Int.reduceLT, Nat.reduceAdd, Nat.reduceMul, h0, h1, ff_81]) | (refine WK.condT ?_ ?_; focus (simp only [ev_tmp, ev_const, fset_apply, Nat.reduceEqDiff, ↓reduceIte, decide_true, decide_false, h0, h1, ff_81]; done)) | (refine WK.condF ?_ ?_; focus (simp only [ev_tmp, ev_const, fset_apply, Nat.reduceEqDiff, ↓reduceIte, decide_true, decide_false, h0, h1, ff_81]; done)))
  (first | refine WK.retNil ⟨Or.inr rfl, _, rfl, ?_, ?_⟩ | refine WK.skipNil ⟨Or.inl rfl, _, rfl, ?_, ?_⟩)
  · exact fun _ _ => rfl
  · simp only [packed, fset_apply, Nat.reduceEqDiff, ↓reduceIte, List.getD_cons_zero, List.getD_cons_succ, ff_81]
    simp
theorem nudge_down (u o : Nat) (h : u < 18446744073709551616) (ho : o ≤ u) (n : Nat) (H : Heap) : Gives Tryd.prog 81 [.int .u64 u, .int .i64 (-(o : Int))] n H fun v n' H' => v = .int .u64 ((u - o : Nat) : Int) ∧ n' = n ∧ H' = H := by
  refine Gives.of orders ok81 (Nat.le_of_ble_eq_true rfl) ?_
  have h1 : IntKind.u64.wrap ((u : Int) + IntKind.u64.wrap (-(o : Int))) = ((u - o : Nat) : Int) := by rw [wrap_u64, wrap_u64]; omega
-- function 81
  repeat (first | apply WK.seq | apply WK.block | apply WK.skipSeq | apply WK.skipBlock | apply WK.retSeq | apply WK.retBlock | apply WK.exitSeq | apply WK.exitHere | refine WK.exitOn rfl ?_ | ((first | (refine WK.rgn ?_ ?_; kernel_rfl) | refine AtCall.now ?_); simp (config := { maxSteps := 1000000 }) only [SS, forall_const, wx, tguard, acallee, top, tval, fput, tor, vsh, vbin, vconv, Int.reduceEq, Int.reduceNeg, Nat.reduceGT, Nat.reduceLT, Nat.reduceLeDiff, Nat.reduceEqDiff, ↓reduceIte, reduceCtorEq, Int.reduceToNat, Int.reduceLE, Int.reduceLT, Nat.reduceAdd, Nat.reduceMul, h1, ff_81]) | (refine WK.condT ?_ ?_; focus (simp only [ev_tmp, ev_const, fset_apply, Nat.reduceEqDiff, ↓reduceIte, decide_true, decide_false, h1, ff_81]; done)) | (refine WK.condF ?_ ?_; focus (simp only [ev_tmp, ev_const, fset_apply, Nat.reduceEqDiff, ↓reduceIte, decide_true, decide_false, h1, ff_81]; done)))
  (first | refine WK.retNil ⟨Or.inr rfl, _, rfl, ?_, ?_⟩ | refine WK.skipNil ⟨Or.inl rfl, _, rfl, ?_, ?_⟩)
  · exact fun _ _ => rfl
  · simp only [packed, fset_apply, Nat.reduceEqDiff, ↓reduceIte, List.getD_cons_zero, List.getD_cons_succ, ff_81]
    simp

/-! ### uscale -/
/-- What the scaled value is, unrounded: quarters, and whether something is left over. -/
def uscaleS (x hi lo s : Nat) : Nat :=
  if x * hi / 18446744073709551616 / 2 ^ s * 2 ^ s = x * hi / 18446744073709551616 then
    (x * hi / 18446744073709551616 + 18446744073709551616 - (decide (x * hi % 18446744073709551616 < x * lo / 18446744073709551616)).toNat) % 18446744073709551616 / 2 ^ s |||
      (decide (1 < (x * hi % 18446744073709551616 + 18446744073709551616 - x * lo / 18446744073709551616) % 18446744073709551616)).toNat
  else x * hi / 18446744073709551616 / 2 ^ s ||| 1

theorem uscale_gives (x hi lo s : Nat) {y : Nat} (hx : x < 18446744073709551616) (hhi : hi < 18446744073709551616) (hlo : lo < 18446744073709551616) (hs : s < 64) (n : Nat) (H : Heap) {own : Bool} {ty : TypeId}
    (hy : H y = .cells [.int .u64 hi, .int .u64 lo, .int .i64 s] ty own) :
    Gives Tryd.prog 80 [.int .u64 x, .pointer (some ⟨y, 0, none⟩)] n H fun v n' H' => v = .int .u64 (uscaleS x hi lo s : Nat) ∧ n' = n ∧ H' = H := by
  refine Gives.of orders ok80 (Nat.le_of_ble_eq_true rfl) ?_
  have hA : x * hi / 18446744073709551616 < 18446744073709551616 := by
    have := Nat.mul_lt_mul'' hx hhi
    exact Nat.div_lt_of_lt_mul (by omega)
  have hB : x * lo / 18446744073709551616 < 18446744073709551616 := by
    have := Nat.mul_lt_mul'' hx hlo
    exact Nat.div_lt_of_lt_mul (by omega)
  have hM : x * hi % 18446744073709551616 < 18446744073709551616 := Nat.mod_lt _ (by omega)
  have g0 : ([Value.int .u64 (hi : Int), .int .u64 (lo : Int), .int .i64 (s : Int)] : List Value)[0]? = some (.int .u64 hi) := rfl
  have g1 : ([Value.int .u64 (hi : Int), .int .u64 (lo : Int), .int .i64 (s : Int)] : List Value)[1]? = some (.int .u64 lo) := rfl
  have g2 : ([Value.int .u64 (hi : Int), .int .u64 (lo : Int), .int .i64 (s : Int)] : List Value)[2]? = some (.int .i64 s) := rfl
  generalize ([Value.int .u64 (hi : Int), .int .u64 (lo : Int), .int .i64 (s : Int)] : List Value) = cs at *
  have e0 : (0 : Nat) + 0 = 0 := rfl
  have a1 : IntKind.i64.wrap (BitVec.ofInt IntKind.i64.bits (s : Int) &&& BitVec.ofInt IntKind.i64.bits 63).toNat = (s : Int) := by
    have := and_i64 s 63 (by omega) (by omega)
    have h' : IntKind.i64.wrap (BitVec.ofInt IntKind.i64.bits (s : Int) &&& BitVec.ofInt IntKind.i64.bits 63).toNat = ((s &&& 63 : Nat) : Int) := this
    rw [h', show (63 : Nat) = 2 ^ 6 - 1 by rfl, and_mask, Nat.mod_eq_of_lt hs]
  have hneg : ((s : Int) < 0) = False := by simp
  have hmin : min s IntKind.u64.bits = s := by show min s 64 = s; omega
  have hsn : (s : Int).toNat = s := Int.toNat_natCast s
-- function 80
  repeat (first | apply WK.seq | apply WK.block | apply WK.skipSeq | apply WK.skipBlock | apply WK.retSeq | apply WK.retBlock | apply WK.exitSeq | apply WK.exitHere | refine WK.exitOn rfl ?_ | ((first | (refine WK.rgn ?_ ?_; kernel_rfl) | refine AtCall.now ?_); simp (config := { maxSteps := 1000000 }) only [SS, forall_const, wx, tguard, acallee, top, tval, fput, tor, vsh, vbin, tload, tload2, tload3, tfa, tfa2, textr, Int.reduceEq, Int.reduceNeg, Nat.reduceGT, Nat.reduceLT, Nat.reduceLeDiff, Nat.reduceEqDiff, ↓reduceIte, reduceCtorEq, Int.reduceToNat, Int.reduceLE, Int.reduceLT, Nat.reduceAdd, Nat.reduceMul, aop_nc, tnc, hy, g0, g1, g2, ff_80]) | (refine WK.condT ?_ ?_; focus (simp only [ev_tmp, ev_const, fset_apply, Nat.reduceEqDiff, ↓reduceIte, decide_true, decide_false, aop_nc, tnc, hy, g0, g1, g2, ff_80]; done)) | (refine WK.condF ?_ ?_; focus (simp only [ev_tmp, ev_const, fset_apply, Nat.reduceEqDiff, ↓reduceIte, decide_true, decide_false, aop_nc, tnc, hy, g0, g1, g2, ff_80]; done)))
  refine AtCall.by (mul64_gives x hi hx hhi _ _) ?_
  rintro v n' H' hk ⟨rfl, rfl, rfl⟩
  generalize hEA : x * hi / 18446744073709551616 = A at *
  generalize hEM : x * hi % 18446744073709551616 = M at *
  have q1 := shr_nat A s
  have q2 : IntKind.u64.wrap (((A / 2 ^ s : Nat) : Int) * 2 ^ s) = ((A / 2 ^ s * 2 ^ s : Nat) : Int) := by
    have h1 : ((A / 2 ^ s : Nat) : Int) * 2 ^ s = ((A / 2 ^ s * 2 ^ s : Nat) : Int) := by simp
    rw [h1, wrap_u64n, Nat.mod_eq_of_lt (Nat.lt_of_le_of_lt (Nat.div_mul_le_self A (2 ^ s)) hA)]
  by_cases h1 : A / 2 ^ s * 2 ^ s = A
  · have h1' : (((A / 2 ^ s * 2 ^ s : Nat) : Int) = (A : Int)) = True := by simp only [eq_iff_iff, iff_true]; exact_mod_cast h1
    simp (config := { maxSteps := 1000000 }) only [SS, forall_const, wx, tguard, acallee, top, tval, fput, tor, vsh, vbin, tload, tload2, tload3, tfa, tfa2, textr, Int.reduceEq, Int.reduceNeg, Nat.reduceGT, Nat.reduceLT, Nat.reduceLeDiff, Nat.reduceEqDiff, ↓reduceIte, reduceCtorEq, Int.reduceToNat, Int.reduceLE, Int.reduceLT, Nat.reduceAdd, Nat.reduceMul, aop_nc, tnc, hy, g0, g1, g2, ff_80]
    repeat (first | apply WK.seq | apply WK.block | apply WK.skipSeq | apply WK.skipBlock | apply WK.retSeq | apply WK.retBlock | apply WK.exitSeq | apply WK.exitHere | refine WK.exitOn rfl ?_ | ((first | (refine WK.rgn ?_ ?_; kernel_rfl) | refine AtCall.now ?_); simp (config := { maxSteps := 1000000 }) only [SS, forall_const, wx, tguard, acallee, top, tval, fput, tor, vsh, vbin, tload, tload2, tload3, tfa, tfa2, textr, Int.reduceEq, Int.reduceNeg, Nat.reduceGT, Nat.reduceLT, Nat.reduceLeDiff, Nat.reduceEqDiff, ↓reduceIte, reduceCtorEq, Int.reduceToNat, Int.reduceLE, Int.reduceLT, Nat.reduceAdd, Nat.reduceMul, aop_nc, tnc, hy, g0, g1, g2, a1, hneg, hmin, hsn, q1, q2, h1', Bool.not_true, ff_80]) | (refine WK.condT ?_ ?_; focus (simp only [ev_tmp, ev_const, fset_apply, Nat.reduceEqDiff, ↓reduceIte, decide_true, decide_false, aop_nc, tnc, hy, g0, g1, g2, a1, hneg, hmin, hsn, q1, q2, h1', Bool.not_true, ff_80]; done)) | (refine WK.condF ?_ ?_; focus (simp only [ev_tmp, ev_const, fset_apply, Nat.reduceEqDiff, ↓reduceIte, decide_true, decide_false, aop_nc, tnc, hy, g0, g1, g2, a1, hneg, hmin, hsn, q1, q2, h1', Bool.not_true, ff_80]; done)))
    refine AtCall.by (mul64_gives x lo hx hlo _ _) ?_
    rintro v n' H' hk ⟨rfl, rfl, rfl⟩
    generalize hEB : x * lo / 18446744073709551616 = B at *
    simp (config := { maxSteps := 1000000 }) only [SS, forall_const, wx, tguard, acallee, top, tval, fput, tor, vsh, vbin, tload, tload2, tload3, tfa, tfa2, textr, Int.reduceEq, Int.reduceNeg, Nat.reduceGT, Nat.reduceLT, Nat.reduceLeDiff, Nat.reduceEqDiff, ↓reduceIte, reduceCtorEq, Int.reduceToNat, Int.reduceLE, Int.reduceLT, Nat.reduceAdd, Nat.reduceMul, aop_nc, tnc, hy, g0, g1, g2, ff_80]
    repeat (first | apply WK.seq | apply WK.block | apply WK.skipSeq | apply WK.skipBlock | apply WK.retSeq | apply WK.retBlock | apply WK.exitSeq | apply WK.exitHere | refine WK.exitOn rfl ?_ | ((first | (refine WK.rgn ?_ ?_; kernel_rfl) | refine AtCall.now ?_); simp (config := { maxSteps := 1000000 }) only [SS, forall_const, wx, tguard, acallee, top, tval, fput, tor, vsh, vbin, tload, tload2, tload3, tfa, tfa2, textr, Int.reduceEq, Int.reduceNeg, Nat.reduceGT, Nat.reduceLT, Nat.reduceLeDiff, Nat.reduceEqDiff, ↓reduceIte, reduceCtorEq, Int.reduceToNat, Int.reduceLE, Int.reduceLT, Nat.reduceAdd, Nat.reduceMul, aop_nc, tnc, hy, g0, g1, g2, a1, hneg, hmin, hsn, q1, q2, ff_80]) | (refine WK.condT ?_ ?_; focus (simp only [ev_tmp, ev_const, fset_apply, Nat.reduceEqDiff, ↓reduceIte, decide_true, decide_false, aop_nc, tnc, hy, g0, g1, g2, a1, hneg, hmin, hsn, q1, q2, ff_80]; done)) | (refine WK.condF ?_ ?_; focus (simp only [ev_tmp, ev_const, fset_apply, Nat.reduceEqDiff, ↓reduceIte, decide_true, decide_false, aop_nc, tnc, hy, g0, g1, g2, a1, hneg, hmin, hsn, q1, q2, ff_80]; done)))
    refine AtCall.by (bool64_gives _ _ _) ?_
    rintro v n' H' hk ⟨rfl, rfl, rfl⟩
    have c1 : decide ((M : Int) < (B : Int)) = decide (M < B) := by simp
    try rw [c1]
    have q3 : IntKind.u64.wrap ((A : Int) - ((decide (M < B)).toNat : Int)) = (((A + 18446744073709551616 - (decide (M < B)).toNat) % 18446744073709551616 : Nat) : Int) := by
      rw [wrap_u64]
      have : (decide (M < B)).toNat ≤ 1 := by cases decide (M < B) <;> simp
      omega
    have q4 := shr_nat ((A + 18446744073709551616 - (decide (M < B)).toNat) % 18446744073709551616) s
    have q5 : IntKind.u64.wrap ((M : Int) - (B : Int)) = (((M + 18446744073709551616 - B) % 18446744073709551616 : Nat) : Int) := by
      rw [wrap_u64]; omega
    simp (config := { maxSteps := 1000000 }) only [SS, forall_const, wx, tguard, acallee, top, tval, fput, tor, vsh, vbin, tload, tload2, tload3, tfa, tfa2, textr, Int.reduceEq, Int.reduceNeg, Nat.reduceGT, Nat.reduceLT, Nat.reduceLeDiff, Nat.reduceEqDiff, ↓reduceIte, reduceCtorEq, Int.reduceToNat, Int.reduceLE, Int.reduceLT, Nat.reduceAdd, Nat.reduceMul, q3, ff_80]
    repeat (first | apply WK.seq | apply WK.block | apply WK.skipSeq | apply WK.skipBlock | apply WK.retSeq | apply WK.retBlock | apply WK.exitSeq | apply WK.exitHere | refine WK.exitOn rfl ?_ | ((first | (refine WK.rgn ?_ ?_; kernel_rfl) | refine AtCall.now ?_); simp (config := { maxSteps := 1000000 }) only [SS, forall_const, wx, tguard, acallee, top, tval, fput, tor, vsh, vbin, tload, tload2, tload3, tfa, tfa2, textr, Int.reduceEq, Int.reduceNeg, Nat.reduceGT, Nat.reduceLT, Nat.reduceLeDiff, Nat.reduceEqDiff, ↓reduceIte, reduceCtorEq, Int.reduceToNat, Int.reduceLE, Int.reduceLT, Nat.reduceAdd, Nat.reduceMul, hneg, hmin, hsn, q4, q5, ff_80]) | (refine WK.condT ?_ ?_; focus (simp only [ev_tmp, ev_const, fset_apply, Nat.reduceEqDiff, ↓reduceIte, decide_true, decide_false, hneg, hmin, hsn, q4, q5, ff_80]; done)) | (refine WK.condF ?_ ?_; focus (simp only [ev_tmp, ev_const, fset_apply, Nat.reduceEqDiff, ↓reduceIte, decide_true, decide_false, hneg, hmin, hsn, q4, q5, ff_80]; done)))
    refine AtCall.by (bool64_gives _ _ _) ?_
    rintro v n' H' hk ⟨rfl, rfl, rfl⟩
    have c2 : decide ((1 : Int) < (((M + 18446744073709551616 - B) % 18446744073709551616 : Nat) : Int)) = decide (1 < (M + 18446744073709551616 - B) % 18446744073709551616) := by
      rw [decide_eq_decide]; omega
    try rw [c2]
    have q6 := or_u64 ((A + 18446744073709551616 - (decide (M < B)).toNat) % 18446744073709551616 / 2 ^ s) (decide (1 < (M + 18446744073709551616 - B) % 18446744073709551616)).toNat
      (Nat.lt_of_le_of_lt (Nat.div_le_self _ _) (Nat.mod_lt _ (by omega))) (by cases decide (1 < (M + 18446744073709551616 - B) % 18446744073709551616) <;> simp)
    simp (config := { maxSteps := 1000000 }) only [SS, forall_const, wx, tguard, acallee, top, tval, fput, tor, vsh, vbin, tload, tload2, tload3, tfa, tfa2, textr, Int.reduceEq, Int.reduceNeg, Nat.reduceGT, Nat.reduceLT, Nat.reduceLeDiff, Nat.reduceEqDiff, ↓reduceIte, reduceCtorEq, Int.reduceToNat, Int.reduceLE, Int.reduceLT, Nat.reduceAdd, Nat.reduceMul, q6, ff_80]
    repeat (first | apply WK.seq | apply WK.block | apply WK.skipSeq | apply WK.skipBlock | apply WK.retSeq | apply WK.retBlock | apply WK.exitSeq | apply WK.exitHere | refine WK.exitOn rfl ?_ | ((first | (refine WK.rgn ?_ ?_; kernel_rfl) | refine AtCall.now ?_); simp (config := { maxSteps := 1000000 }) only [SS, forall_const, wx, tguard, acallee, top, tval, fput, tor, vsh, vbin, tload, tload2, tload3, tfa, tfa2, textr, Int.reduceEq, Int.reduceNeg, Nat.reduceGT, Nat.reduceLT, Nat.reduceLeDiff, Nat.reduceEqDiff, ↓reduceIte, reduceCtorEq, Int.reduceToNat, Int.reduceLE, Int.reduceLT, Nat.reduceAdd, Nat.reduceMul, q6, ff_80]) | (refine WK.condT ?_ ?_; focus (simp only [ev_tmp, ev_const, fset_apply, Nat.reduceEqDiff, ↓reduceIte, decide_true, decide_false, q6, ff_80]; done)) | (refine WK.condF ?_ ?_; focus (simp only [ev_tmp, ev_const, fset_apply, Nat.reduceEqDiff, ↓reduceIte, decide_true, decide_false, q6, ff_80]; done)))
    (first | refine WK.retNil ⟨Or.inr rfl, _, rfl, ?_, ?_⟩ | refine WK.skipNil ⟨Or.inl rfl, _, rfl, ?_, ?_⟩)
    · exact fun _ _ => rfl
    · simp only [packed, fset_apply, Nat.reduceEqDiff, ↓reduceIte, List.getD_cons_zero, List.getD_cons_succ, ff_80]
      unfold uscaleS
      rw [hEA, hEM, hEB, if_pos h1]
      simp
  · have h1' : (((A / 2 ^ s * 2 ^ s : Nat) : Int) = (A : Int)) = False := by simp only [eq_iff_iff, iff_false]; intro e; exact h1 (by exact_mod_cast e)
    have q6 : IntKind.u64.wrap (BitVec.ofInt IntKind.u64.bits ((A / 2 ^ s : Nat) : Int) ||| BitVec.ofInt IntKind.u64.bits 1).toNat = ((A / 2 ^ s ||| 1 : Nat) : Int) := or_u64 (A / 2 ^ s) 1 (Nat.lt_of_le_of_lt (Nat.div_le_self _ _) hA) (by omega)
    simp (config := { maxSteps := 1000000 }) only [SS, forall_const, wx, tguard, acallee, top, tval, fput, tor, vsh, vbin, tload, tload2, tload3, tfa, tfa2, textr, Int.reduceEq, Int.reduceNeg, Nat.reduceGT, Nat.reduceLT, Nat.reduceLeDiff, Nat.reduceEqDiff, ↓reduceIte, reduceCtorEq, Int.reduceToNat, Int.reduceLE, Int.reduceLT, Nat.reduceAdd, Nat.reduceMul, aop_nc, tnc, hy, g0, g1, g2, ff_80]
    repeat (first | apply WK.seq | apply WK.block | apply WK.skipSeq | apply WK.skipBlock | apply WK.retSeq | apply WK.retBlock | apply WK.exitSeq | apply WK.exitHere | refine WK.exitOn rfl ?_ | ((first | (refine WK.rgn ?_ ?_; kernel_rfl) | refine AtCall.now ?_); simp (config := { maxSteps := 1000000 }) only [SS, forall_const, wx, tguard, acallee, top, tval, fput, tor, vsh, vbin, tload, tload2, tload3, tfa, tfa2, textr, Int.reduceEq, Int.reduceNeg, Nat.reduceGT, Nat.reduceLT, Nat.reduceLeDiff, Nat.reduceEqDiff, ↓reduceIte, reduceCtorEq, Int.reduceToNat, Int.reduceLE, Int.reduceLT, Nat.reduceAdd, Nat.reduceMul, aop_nc, tnc, hy, g0, g1, g2, a1, hneg, hmin, hsn, q1, q2, h1', q6, Bool.not_false, ff_80]) | (refine WK.condT ?_ ?_; focus (simp only [ev_tmp, ev_const, fset_apply, Nat.reduceEqDiff, ↓reduceIte, decide_true, decide_false, aop_nc, tnc, hy, g0, g1, g2, a1, hneg, hmin, hsn, q1, q2, h1', q6, Bool.not_false, ff_80]; done)) | (refine WK.condF ?_ ?_; focus (simp only [ev_tmp, ev_const, fset_apply, Nat.reduceEqDiff, ↓reduceIte, decide_true, decide_false, aop_nc, tnc, hy, g0, g1, g2, a1, hneg, hmin, hsn, q1, q2, h1', q6, Bool.not_false, ff_80]; done)))
    (first | refine WK.retNil ⟨Or.inr rfl, _, rfl, ?_, ?_⟩ | refine WK.skipNil ⟨Or.inl rfl, _, rfl, ?_, ?_⟩)
    · exact fun _ _ => rfl
    · simp only [packed, fset_apply, Nat.reduceEqDiff, ↓reduceIte, List.getD_cons_zero, List.getD_cons_succ, ff_80]
      unfold uscaleS
      rw [hEA, if_neg h1]
      simp
end Go.Proofs.YtddpnhhgmfaloaaDoor
