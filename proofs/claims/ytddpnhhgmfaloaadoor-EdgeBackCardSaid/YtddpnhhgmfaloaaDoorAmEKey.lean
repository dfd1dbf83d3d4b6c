/- A part of a proof. Its conditions: none. -/
import Derived.Test.YtddpnhhgmfaloaaDoorAmEAlive
import Derived.Test.YtddpnhhgmfaloaaDoorAmD
set_option linter.all false
namespace Go.Proofs.YtddpnhhgmfaloaaDoor
open Go.AM
set_option maxRecDepth 100000

def realB (b : Nat) : Bool := FloatKind.f64.format.order b b == some .eq
/-- A weight's place among all, by bits. -/
def keyZ (b : Nat) : Int :=
  if realB b = true then (if (b : Int).fdiv (2 ^ 63) = 1 then IntKind.u64.wrap (BitVec.ofInt IntKind.u64.bits (if IntKind.u64.signed = true then -1 else IntKind.u64.max) ^^^ BitVec.ofInt IntKind.u64.bits (b : Int)).toNat
    else IntKind.u64.wrap (BitVec.ofInt IntKind.u64.bits (b : Int) ||| BitVec.ofInt IntKind.u64.bits 9223372036854775808).toNat)
  else 18446744073709551615

theorem bne_realB (b : Nat) : (FloatKind.f64.format.order b b != some .eq) = !realB b := rfl

theorem key_gives (b : Nat) (n : Nat) (H : Heap) : Gives Tryd.prog 14 [.float .f64 b] n H fun v n' H' => v = .int .u64 (keyZ b) ∧ n' = n ∧ H' = H := by
  refine Gives.of orders ok14 (Nat.le_of_ble_eq_true rfl) ?_
-- function 14
  cases h1 : realB b
  · repeat (first | apply WK.seq | apply WK.block | apply WK.skipSeq | apply WK.skipBlock | apply WK.retSeq | apply WK.retBlock | apply WK.exitSeq | apply WK.exitHere | refine WK.exitOn rfl ?_ | ((first | (refine WK.rgn ?_ ?_; kernel_rfl) | refine AtCall.now ?_); simp (config := { maxSteps := 1000000 }) only [SS, forall_const, wx, tguard, acallee, top, tval, fput, tor, vsh, vbin, vun, Int.reduceEq, Int.reduceNeg, Nat.reduceGT, Nat.reduceLT, Nat.reduceLeDiff, Nat.reduceEqDiff, ↓reduceIte, reduceCtorEq, Int.reduceToNat, Int.reduceLE, Int.reduceLT, Nat.reduceAdd, Nat.reduceMul, bne_realB, h1, Bool.not_false, ff_14]) | (refine WK.condT ?_ ?_; focus (simp only [ev_tmp, ev_const, fset_apply, Nat.reduceEqDiff, ↓reduceIte, decide_true, decide_false, bne_realB, h1, Bool.not_false, ff_14]; done)) | (refine WK.condF ?_ ?_; focus (simp only [ev_tmp, ev_const, fset_apply, Nat.reduceEqDiff, ↓reduceIte, decide_true, decide_false, bne_realB, h1, Bool.not_false, ff_14]; done)))
    (first | refine WK.retNil ⟨Or.inr rfl, _, rfl, ?_, ?_⟩ | refine WK.skipNil ⟨Or.inl rfl, _, rfl, ?_, ?_⟩)
    · exact fun _ _ => rfl
    · simp only [packed, fset_apply, Nat.reduceEqDiff, ↓reduceIte, List.getD_cons_zero, List.getD_cons_succ, keyZ, h1, ff_14]
      simp
  · by_cases h2 : (b : Int).fdiv (2 ^ 63) = 1
    · repeat (first | apply WK.seq | apply WK.block | apply WK.skipSeq | apply WK.skipBlock | apply WK.retSeq | apply WK.retBlock | apply WK.exitSeq | apply WK.exitHere | refine WK.exitOn rfl ?_ | ((first | (refine WK.rgn ?_ ?_; kernel_rfl) | refine AtCall.now ?_); simp (config := { maxSteps := 1000000 }) only [SS, forall_const, wx, tguard, acallee, top, tval, fput, tor, vsh, vbin, vun, Int.reduceEq, Int.reduceNeg, Nat.reduceGT, Nat.reduceLT, Nat.reduceLeDiff, Nat.reduceEqDiff, ↓reduceIte, reduceCtorEq, Int.reduceToNat, Int.reduceLE, Int.reduceLT, Nat.reduceAdd, Nat.reduceMul, bne_realB, h1, Bool.not_true, ext_bits, min63, h2, ff_14]) | (refine WK.condT ?_ ?_; focus (simp only [ev_tmp, ev_const, fset_apply, Nat.reduceEqDiff, ↓reduceIte, decide_true, decide_false, bne_realB, h1, Bool.not_true, ext_bits, min63, h2, ff_14]; done)) | (refine WK.condF ?_ ?_; focus (simp only [ev_tmp, ev_const, fset_apply, Nat.reduceEqDiff, ↓reduceIte, decide_true, decide_false, bne_realB, h1, Bool.not_true, ext_bits, min63, h2, ff_14]; done)))
      (first | refine WK.retNil ⟨Or.inr rfl, _, rfl, ?_, ?_⟩ | refine WK.skipNil ⟨Or.inl rfl, _, rfl, ?_, ?_⟩)
      · exact fun _ _ => rfl
      · simp only [packed, fset_apply, Nat.reduceEqDiff, ↓reduceIte, List.getD_cons_zero, List.getD_cons_succ, keyZ, h1, h2, ff_14]
        simp
    · repeat (first | apply WK.seq | apply WK.block | apply WK.skipSeq | apply WK.skipBlock | apply WK.retSeq | apply WK.retBlock | apply WK.exitSeq | apply WK.exitHere | refine WK.exitOn rfl ?_ | ((first | (refine WK.rgn ?_ ?_; kernel_rfl) | refine AtCall.now ?_); simp (config := { maxSteps := 1000000 }) only [SS, forall_const, wx, tguard, acallee, top, tval, fput, tor, vsh, vbin, vun, Int.reduceEq, Int.reduceNeg, Nat.reduceGT, Nat.reduceLT, Nat.reduceLeDiff, Nat.reduceEqDiff, ↓reduceIte, reduceCtorEq, Int.reduceToNat, Int.reduceLE, Int.reduceLT, Nat.reduceAdd, Nat.reduceMul, bne_realB, h1, Bool.not_true, ext_bits, min63, h2, ff_14]) | (refine WK.condT ?_ ?_; focus (simp only [ev_tmp, ev_const, fset_apply, Nat.reduceEqDiff, ↓reduceIte, decide_true, decide_false, bne_realB, h1, Bool.not_true, ext_bits, min63, h2, ff_14]; done)) | (refine WK.condF ?_ ?_; focus (simp only [ev_tmp, ev_const, fset_apply, Nat.reduceEqDiff, ↓reduceIte, decide_true, decide_false, bne_realB, h1, Bool.not_true, ext_bits, min63, h2, ff_14]; done)))
      (first | refine WK.retNil ⟨Or.inr rfl, _, rfl, ?_, ?_⟩ | refine WK.skipNil ⟨Or.inl rfl, _, rfl, ?_, ?_⟩)
      · exact fun _ _ => rfl
      · simp only [packed, fset_apply, Nat.reduceEqDiff, ↓reduceIte, List.getD_cons_zero, List.getD_cons_succ, keyZ, h1, h2, ff_14]
        simp

def cmpZ (a b : Nat) : Int := if keyZ a < keyZ b then -1 else if keyZ b < keyZ a then 1 else 0
theorem cmp_gives (a b : Nat) (n : Nat) (H : Heap) : Gives Tryd.prog 10 [.float .f64 a, .float .f64 b] n H fun v n' H' => v = .int .i64 (cmpZ a b) ∧ n' = n ∧ H' = H := by
  refine Gives.of orders ok10 (Nat.le_of_ble_eq_true rfl) ?_
-- function 10
  repeat (first | apply WK.seq | apply WK.block | apply WK.skipSeq | apply WK.skipBlock | apply WK.retSeq | apply WK.retBlock | apply WK.exitSeq | apply WK.exitHere | refine WK.exitOn rfl ?_ | ((first | (refine WK.rgn ?_ ?_; kernel_rfl) | refine AtCall.now ?_); simp (config := { maxSteps := 1000000 }) only [SS, forall_const, wx, tguard, acallee, top, tval, fput, tor, vsh, vbin, Int.reduceEq, Int.reduceNeg, Nat.reduceGT, Nat.reduceLT, Nat.reduceLeDiff, Nat.reduceEqDiff, ↓reduceIte, reduceCtorEq, Int.reduceToNat, Int.reduceLE, Int.reduceLT, Nat.reduceAdd, Nat.reduceMul]) | (refine WK.condT ?_ ?_; focus (simp only [ev_tmp, ev_const, fset_apply, Nat.reduceEqDiff, ↓reduceIte, decide_true, decide_false]; done)) | (refine WK.condF ?_ ?_; focus (simp only [ev_tmp, ev_const, fset_apply, Nat.reduceEqDiff, ↓reduceIte, decide_true, decide_false]; done)))
  refine AtCall.by (key_gives a _ _) ?_
  rintro v n' H' hk ⟨rfl, rfl, rfl⟩
  simp (config := { maxSteps := 1000000 }) only [SS, forall_const, wx, tguard, acallee, top, tval, fput, tor, vsh, vbin, Int.reduceEq, Int.reduceNeg, Nat.reduceGT, Nat.reduceLT, Nat.reduceLeDiff, Nat.reduceEqDiff, ↓reduceIte, reduceCtorEq, Int.reduceToNat, Int.reduceLE, Int.reduceLT, Nat.reduceAdd, Nat.reduceMul]
  refine AtCall.by (key_gives b _ _) ?_
  rintro v n' H' hk ⟨rfl, rfl, rfl⟩
  simp (config := { maxSteps := 1000000 }) only [SS, forall_const, wx, tguard, acallee, top, tval, fput, tor, vsh, vbin, Int.reduceEq, Int.reduceNeg, Nat.reduceGT, Nat.reduceLT, Nat.reduceLeDiff, Nat.reduceEqDiff, ↓reduceIte, reduceCtorEq, Int.reduceToNat, Int.reduceLE, Int.reduceLT, Nat.reduceAdd, Nat.reduceMul]
  by_cases h1 : keyZ a < keyZ b
  · repeat (first | apply WK.seq | apply WK.block | apply WK.skipSeq | apply WK.skipBlock | apply WK.retSeq | apply WK.retBlock | apply WK.exitSeq | apply WK.exitHere | refine WK.exitOn rfl ?_ | ((first | (refine WK.rgn ?_ ?_; kernel_rfl) | refine AtCall.now ?_); simp (config := { maxSteps := 1000000 }) only [SS, forall_const, wx, tguard, acallee, top, tval, fput, tor, vsh, vbin, Int.reduceEq, Int.reduceNeg, Nat.reduceGT, Nat.reduceLT, Nat.reduceLeDiff, Nat.reduceEqDiff, ↓reduceIte, reduceCtorEq, Int.reduceToNat, Int.reduceLE, Int.reduceLT, Nat.reduceAdd, Nat.reduceMul, h1]) | (refine WK.condT ?_ ?_; focus (simp only [ev_tmp, ev_const, fset_apply, Nat.reduceEqDiff, ↓reduceIte, decide_true, decide_false, h1]; done)) | (refine WK.condF ?_ ?_; focus (simp only [ev_tmp, ev_const, fset_apply, Nat.reduceEqDiff, ↓reduceIte, decide_true, decide_false, h1]; done)))
    (first | refine WK.retNil ⟨Or.inr rfl, _, rfl, ?_, ?_⟩ | refine WK.skipNil ⟨Or.inl rfl, _, rfl, ?_, ?_⟩)
    · exact fun _ _ => rfl
    · simp only [packed, fset_apply, Nat.reduceEqDiff, ↓reduceIte, List.getD_cons_zero, List.getD_cons_succ, cmpZ, h1]
      simp
  · by_cases h2 : keyZ b < keyZ a
    · repeat (first | apply WK.seq | apply WK.block | apply WK.skipSeq | apply WK.skipBlock | apply WK.retSeq | apply WK.retBlock | apply WK.exitSeq | apply WK.exitHere | refine WK.exitOn rfl ?_ | ((first | (refine WK.rgn ?_ ?_; kernel_rfl) | refine AtCall.now ?_); simp (config := { maxSteps := 1000000 }) only [SS, forall_const, wx, tguard, acallee, top, tval, fput, tor, vsh, vbin, Int.reduceEq, Int.reduceNeg, Nat.reduceGT, Nat.reduceLT, Nat.reduceLeDiff, Nat.reduceEqDiff, ↓reduceIte, reduceCtorEq, Int.reduceToNat, Int.reduceLE, Int.reduceLT, Nat.reduceAdd, Nat.reduceMul, h1, h2]) | (refine WK.condT ?_ ?_; focus (simp only [ev_tmp, ev_const, fset_apply, Nat.reduceEqDiff, ↓reduceIte, decide_true, decide_false, h1, h2]; done)) | (refine WK.condF ?_ ?_; focus (simp only [ev_tmp, ev_const, fset_apply, Nat.reduceEqDiff, ↓reduceIte, decide_true, decide_false, h1, h2]; done)))
      (first | refine WK.retNil ⟨Or.inr rfl, _, rfl, ?_, ?_⟩ | refine WK.skipNil ⟨Or.inl rfl, _, rfl, ?_, ?_⟩)
      · exact fun _ _ => rfl
      · simp only [packed, fset_apply, Nat.reduceEqDiff, ↓reduceIte, List.getD_cons_zero, List.getD_cons_succ, cmpZ, h1, h2]
        simp
    · repeat (first | apply WK.seq | apply WK.block | apply WK.skipSeq | apply WK.skipBlock | apply WK.retSeq | apply WK.retBlock | apply WK.exitSeq | apply WK.exitHere | refine WK.exitOn rfl ?_ | ((first | (refine WK.rgn ?_ ?_; kernel_rfl) | refine AtCall.now ?_); simp (config := { maxSteps := 1000000 }) only [SS, forall_const, wx, tguard, acallee, top, tval, fput, tor, vsh, vbin, Int.reduceEq, Int.reduceNeg, Nat.reduceGT, Nat.reduceLT, Nat.reduceLeDiff, Nat.reduceEqDiff, ↓reduceIte, reduceCtorEq, Int.reduceToNat, Int.reduceLE, Int.reduceLT, Nat.reduceAdd, Nat.reduceMul, h1, h2]) | (refine WK.condT ?_ ?_; focus (simp only [ev_tmp, ev_const, fset_apply, Nat.reduceEqDiff, ↓reduceIte, decide_true, decide_false, h1, h2]; done)) | (refine WK.condF ?_ ?_; focus (simp only [ev_tmp, ev_const, fset_apply, Nat.reduceEqDiff, ↓reduceIte, decide_true, decide_false, h1, h2]; done)))
      (first | refine WK.retNil ⟨Or.inr rfl, _, rfl, ?_, ?_⟩ | refine WK.skipNil ⟨Or.inl rfl, _, rfl, ?_, ?_⟩)
      · exact fun _ _ => rfl
      · simp only [packed, fset_apply, Nat.reduceEqDiff, ↓reduceIte, List.getD_cons_zero, List.getD_cons_succ, cmpZ, h1, h2]
        simp

theorem same_gives (a b : Nat) (n : Nat) (H : Heap) : Gives Tryd.prog 11 [.float .f64 a, .float .f64 b] n H fun v n' H' => v = .bool (decide (keyZ a = keyZ b)) ∧ n' = n ∧ H' = H := by
  refine Gives.of orders ok11 (Nat.le_of_ble_eq_true rfl) ?_
-- function 11
  repeat (first | apply WK.seq | apply WK.block | apply WK.skipSeq | apply WK.skipBlock | apply WK.retSeq | apply WK.retBlock | apply WK.exitSeq | apply WK.exitHere | refine WK.exitOn rfl ?_ | ((first | (refine WK.rgn ?_ ?_; kernel_rfl) | refine AtCall.now ?_); simp (config := { maxSteps := 1000000 }) only [SS, forall_const, wx, tguard, acallee, top, tval, fput, tor, vsh, vbin, Int.reduceEq, Int.reduceNeg, Nat.reduceGT, Nat.reduceLT, Nat.reduceLeDiff, Nat.reduceEqDiff, ↓reduceIte, reduceCtorEq, Int.reduceToNat, Int.reduceLE, Int.reduceLT, Nat.reduceAdd, Nat.reduceMul, ff_11]) | (refine WK.condT ?_ ?_; focus (simp only [ev_tmp, ev_const, fset_apply, Nat.reduceEqDiff, ↓reduceIte, decide_true, decide_false, ff_11]; done)) | (refine WK.condF ?_ ?_; focus (simp only [ev_tmp, ev_const, fset_apply, Nat.reduceEqDiff, ↓reduceIte, decide_true, decide_false, ff_11]; done)))
  refine AtCall.by (key_gives a _ _) ?_
  rintro v n' H' hk ⟨rfl, rfl, rfl⟩
  simp (config := { maxSteps := 1000000 }) only [SS, forall_const, wx, tguard, acallee, top, tval, fput, tor, vsh, vbin, Int.reduceEq, Int.reduceNeg, Nat.reduceGT, Nat.reduceLT, Nat.reduceLeDiff, Nat.reduceEqDiff, ↓reduceIte, reduceCtorEq, Int.reduceToNat, Int.reduceLE, Int.reduceLT, Nat.reduceAdd, Nat.reduceMul, ff_11]
  refine AtCall.by (key_gives b _ _) ?_
  rintro v n' H' hk ⟨rfl, rfl, rfl⟩
  simp (config := { maxSteps := 1000000 }) only [SS, forall_const, wx, tguard, acallee, top, tval, fput, tor, vsh, vbin, Int.reduceEq, Int.reduceNeg, Nat.reduceGT, Nat.reduceLT, Nat.reduceLeDiff, Nat.reduceEqDiff, ↓reduceIte, reduceCtorEq, Int.reduceToNat, Int.reduceLE, Int.reduceLT, Nat.reduceAdd, Nat.reduceMul, ff_11]
  repeat (first | apply WK.seq | apply WK.block | apply WK.skipSeq | apply WK.skipBlock | apply WK.retSeq | apply WK.retBlock | apply WK.exitSeq | apply WK.exitHere | refine WK.exitOn rfl ?_ | ((first | (refine WK.rgn ?_ ?_; kernel_rfl) | refine AtCall.now ?_); simp (config := { maxSteps := 1000000 }) only [SS, forall_const, wx, tguard, acallee, top, tval, fput, tor, vsh, vbin, Int.reduceEq, Int.reduceNeg, Nat.reduceGT, Nat.reduceLT, Nat.reduceLeDiff, Nat.reduceEqDiff, ↓reduceIte, reduceCtorEq, Int.reduceToNat, Int.reduceLE, Int.reduceLT, Nat.reduceAdd, Nat.reduceMul, ff_11]) | (refine WK.condT ?_ ?_; focus (simp only [ev_tmp, ev_const, fset_apply, Nat.reduceEqDiff, ↓reduceIte, decide_true, decide_false, ff_11]; done)) | (refine WK.condF ?_ ?_; focus (simp only [ev_tmp, ev_const, fset_apply, Nat.reduceEqDiff, ↓reduceIte, decide_true, decide_false, ff_11]; done)))
  (first | refine WK.retNil ⟨Or.inr rfl, _, rfl, ?_, ?_⟩ | refine WK.skipNil ⟨Or.inl rfl, _, rfl, ?_, ?_⟩)
  · exact fun _ _ => rfl
  · simp only [packed, fset_apply, Nat.reduceEqDiff, ↓reduceIte, List.getD_cons_zero, List.getD_cons_succ, ff_11]
    simp

def topB (a b : Nat) : Nat := if cmpZ a b < 0 then b else a
theorem top_gives (a b : Nat) (n : Nat) (H : Heap) : Gives Tryd.prog 13 [.float .f64 a, .float .f64 b] n H fun v n' H' => v = .float .f64 (topB a b) ∧ n' = n ∧ H' = H := by
  refine Gives.of orders ok13 (Nat.le_of_ble_eq_true rfl) ?_
-- function 13
  repeat (first | apply WK.seq | apply WK.block | apply WK.skipSeq | apply WK.skipBlock | apply WK.retSeq | apply WK.retBlock | apply WK.exitSeq | apply WK.exitHere | refine WK.exitOn rfl ?_ | ((first | (refine WK.rgn ?_ ?_; kernel_rfl) | refine AtCall.now ?_); simp (config := { maxSteps := 1000000 }) only [SS, forall_const, wx, tguard, acallee, top, tval, fput, tor, vsh, vbin, Int.reduceEq, Int.reduceNeg, Nat.reduceGT, Nat.reduceLT, Nat.reduceLeDiff, Nat.reduceEqDiff, ↓reduceIte, reduceCtorEq, Int.reduceToNat, Int.reduceLE, Int.reduceLT, Nat.reduceAdd, Nat.reduceMul]) | (refine WK.condT ?_ ?_; focus (simp only [ev_tmp, ev_const, fset_apply, Nat.reduceEqDiff, ↓reduceIte, decide_true, decide_false]; done)) | (refine WK.condF ?_ ?_; focus (simp only [ev_tmp, ev_const, fset_apply, Nat.reduceEqDiff, ↓reduceIte, decide_true, decide_false]; done)))
  refine AtCall.by (cmp_gives a b _ _) ?_
  rintro v n' H' hk ⟨rfl, rfl, rfl⟩
  simp (config := { maxSteps := 1000000 }) only [SS, forall_const, wx, tguard, acallee, top, tval, fput, tor, vsh, vbin, Int.reduceEq, Int.reduceNeg, Nat.reduceGT, Nat.reduceLT, Nat.reduceLeDiff, Nat.reduceEqDiff, ↓reduceIte, reduceCtorEq, Int.reduceToNat, Int.reduceLE, Int.reduceLT, Nat.reduceAdd, Nat.reduceMul]
  by_cases h1 : cmpZ a b < 0
  · repeat (first | apply WK.seq | apply WK.block | apply WK.skipSeq | apply WK.skipBlock | apply WK.retSeq | apply WK.retBlock | apply WK.exitSeq | apply WK.exitHere | refine WK.exitOn rfl ?_ | ((first | (refine WK.rgn ?_ ?_; kernel_rfl) | refine AtCall.now ?_); simp (config := { maxSteps := 1000000 }) only [SS, forall_const, wx, tguard, acallee, top, tval, fput, tor, vsh, vbin, Int.reduceEq, Int.reduceNeg, Nat.reduceGT, Nat.reduceLT, Nat.reduceLeDiff, Nat.reduceEqDiff, ↓reduceIte, reduceCtorEq, Int.reduceToNat, Int.reduceLE, Int.reduceLT, Nat.reduceAdd, Nat.reduceMul, h1]) | (refine WK.condT ?_ ?_; focus (simp only [ev_tmp, ev_const, fset_apply, Nat.reduceEqDiff, ↓reduceIte, decide_true, decide_false, h1]; done)) | (refine WK.condF ?_ ?_; focus (simp only [ev_tmp, ev_const, fset_apply, Nat.reduceEqDiff, ↓reduceIte, decide_true, decide_false, h1]; done)))
    (first | refine WK.retNil ⟨Or.inr rfl, _, rfl, ?_, ?_⟩ | refine WK.skipNil ⟨Or.inl rfl, _, rfl, ?_, ?_⟩)
    · exact fun _ _ => rfl
    · simp only [packed, fset_apply, Nat.reduceEqDiff, ↓reduceIte, List.getD_cons_zero, List.getD_cons_succ, topB, h1]
      simp
  · repeat (first | apply WK.seq | apply WK.block | apply WK.skipSeq | apply WK.skipBlock | apply WK.retSeq | apply WK.retBlock | apply WK.exitSeq | apply WK.exitHere | refine WK.exitOn rfl ?_ | ((first | (refine WK.rgn ?_ ?_; kernel_rfl) | refine AtCall.now ?_); simp (config := { maxSteps := 1000000 }) only [SS, forall_const, wx, tguard, acallee, top, tval, fput, tor, vsh, vbin, Int.reduceEq, Int.reduceNeg, Nat.reduceGT, Nat.reduceLT, Nat.reduceLeDiff, Nat.reduceEqDiff, ↓reduceIte, reduceCtorEq, Int.reduceToNat, Int.reduceLE, Int.reduceLT, Nat.reduceAdd, Nat.reduceMul, h1]) | (refine WK.condT ?_ ?_; focus (simp only [ev_tmp, ev_const, fset_apply, Nat.reduceEqDiff, ↓reduceIte, decide_true, decide_false, h1]; done)) | (refine WK.condF ?_ ?_; focus (simp only [ev_tmp, ev_const, fset_apply, Nat.reduceEqDiff, ↓reduceIte, decide_true, decide_false, h1]; done)))
    (first | refine WK.retNil ⟨Or.inr rfl, _, rfl, ?_, ?_⟩ | refine WK.skipNil ⟨Or.inl rfl, _, rfl, ?_, ?_⟩)
    · exact fun _ _ => rfl
    · simp only [packed, fset_apply, Nat.reduceEqDiff, ↓reduceIte, List.getD_cons_zero, List.getD_cons_succ, topB, h1]
      simp

/-! ### The same, in plain numbers -/
theorem expB_eq {b : Nat} (hb : b < 18446744073709551616) : expB b = ((b / 2 ^ 52 % 2048 : Nat) : Int) := by
  unfold expB
  rw [shr_nat]
  have h := and_u64 (b / 2 ^ 52) 2047 (by omega) (by omega)
  have h' : IntKind.u64.wrap (BitVec.ofInt IntKind.u64.bits ((b / 2 ^ 52 : Nat) : Int) &&& BitVec.ofInt IntKind.u64.bits 2047).toNat = ((b / 2 ^ 52 &&& 2047 : Nat) : Int) := h
  rw [h', show (2047 : Nat) = 2 ^ 11 - 1 by rfl, and_mask]
theorem nanB_eq {b : Nat} (hb : b < 18446744073709551616) : nanB b = decide (b % 9223372036854775808 > 9218868437227405312) := by
  unfold nanB
  rw [expB_eq hb, wrap_u64]
  have e1 : decide (((b / 2 ^ 52 % 2048 : Nat) : Int) = 2047) = decide (b / 2 ^ 52 % 2048 = 2047) := by simp only [decide_eq_decide]; omega
  have e2 : (!decide ((b : Int) * 2 ^ 12 % 18446744073709551616 = 0)) = decide (b % 2 ^ 52 ≠ 0) := by
    rw [← decide_not, decide_eq_decide]; omega
  rw [e1, e2, ← Bool.decide_and, decide_eq_decide]
  omega
theorem belowB_eq {b : Nat} (hb : b < 18446744073709551616) : belowB b = decide (9223372036854775808 ≤ b) := by
  unfold belowB
  rw [shr_nat, decide_eq_decide]
  omega
theorem lessB_eq {a b : Nat} (ha : a < 18446744073709551616) (hb : b < 18446744073709551616) (hra : realB a = !nanB a) (hrb : realB b = !nanB b) : lessB a b = decide (keyZ a < keyZ b) := by
  have key : ∀ {c : Nat}, c < 18446744073709551616 → realB c = !nanB c → keyZ c = if c % 9223372036854775808 > 9218868437227405312 then 18446744073709551615 else if 9223372036854775808 ≤ c then ((18446744073709551615 - c : Nat) : Int) else ((c + 9223372036854775808 : Nat) : Int) := by
    intro c hc hr
    unfold keyZ
    rw [hr, nanB_eq hc, not_u64 c hc, shr_nat]
    by_cases h1 : c % 9223372036854775808 > 9218868437227405312
    · simp [h1]
    · have h2 : (!decide (c % 9223372036854775808 > 9218868437227405312)) = true := by simp; omega
      rw [if_pos h2, if_neg h1]
      by_cases h3 : 9223372036854775808 ≤ c
      · rw [if_pos h3, if_pos (by omega)]
      · rw [if_neg h3, if_neg (by omega)]
        have h := or_u64 c 9223372036854775808 hc (by omega)
        have h' : IntKind.u64.wrap (BitVec.ofInt IntKind.u64.bits (c : Int) ||| BitVec.ofInt IntKind.u64.bits 9223372036854775808).toNat = ((c ||| 9223372036854775808 : Nat) : Int) := h
        rw [h', show (9223372036854775808 : Nat) = 2 ^ 63 by rfl, or_high c 63 (by omega)]
  rw [key ha hra, key hb hrb]
  unfold lessB
  rw [nanB_eq ha, nanB_eq hb, belowB_eq ha, belowB_eq hb]
  by_cases h1 : a % 9223372036854775808 > 9218868437227405312 <;> by_cases h2 : b % 9223372036854775808 > 9218868437227405312 <;>
    by_cases h3 : 9223372036854775808 ≤ a <;> by_cases h4 : 9223372036854775808 ≤ b <;> simp [h1, h2, h3, h4] <;> omega

open Ieee in
theorem read_word {b : Nat} : Format.read double b = (if b % 9223372036854775808 < 4503599627370496 then .number (b / 9223372036854775808 % 2 == 1) (b % 9223372036854775808) (-1074) else
    if b % 9223372036854775808 < 9218868437227405312 then .number (b / 9223372036854775808 % 2 == 1) (4503599627370496 + b % 9223372036854775808 % 4503599627370496) (-1074 + (b % 9223372036854775808 / 4503599627370496 - 1 : Nat)) else
    if b % 9223372036854775808 = 9218868437227405312 then .infinity (b / 9223372036854775808 % 2 == 1) else .nan (b / 9223372036854775808 % 2 == 1) (b % 9223372036854775808 - 9218868437227405312)) := rfl
theorem realB_eq {b : Nat} (hb : b < 18446744073709551616) : realB b = !nanB b := by
  rw [nanB_eq hb]
  unfold realB
  simp only [FloatKind.format, Ieee.Format.order, read_word]
  by_cases h1 : b % 9223372036854775808 < 4503599627370496
  · simp only [h1, if_true, Ieee.Datum.order, Int.min_self, Int.sub_self]
    have : ¬ (b % 9223372036854775808 > 9218868437227405312) := by omega
    simp [this, compare, compareOfLessAndEq]
  · by_cases h2 : b % 9223372036854775808 < 9218868437227405312
    · simp only [h1, h2, if_true, if_false, Ieee.Datum.order, Int.min_self, Int.sub_self]
      have : ¬ (b % 9223372036854775808 > 9218868437227405312) := by omega
      simp [this, compare, compareOfLessAndEq]
    · by_cases h3 : b % 9223372036854775808 = 9218868437227405312
      · simp only [h1, h2, h3, if_true, if_false, Ieee.Datum.order]
        simp [compare, compareOfLessAndEq]
      · simp only [h1, h2, h3, if_false, Ieee.Datum.order]
        have : b % 9223372036854775808 > 9218868437227405312 := by omega
        simp [this]
theorem less_key {a b : Nat} (ha : a < 18446744073709551616) (hb : b < 18446744073709551616) : lessB a b = decide (keyZ a < keyZ b) := lessB_eq ha hb (realB_eq ha) (realB_eq hb)
end Go.Proofs.YtddpnhhgmfaloaaDoor
