/- A part of a proof. Its conditions: none. -/
import Derived.Test.YtddpnhhgmfaloaaDoorAmEKey
set_option linter.all false
namespace Go.Proofs.YtddpnhhgmfaloaaDoor
open Go.AM
set_option maxRecDepth 100000

theorem wrap_neg_cmp (a b : Nat) : IntKind.i64.wrap (0 - cmpZ b a) = cmpZ a b := by
  unfold cmpZ
  by_cases h1 : keyZ a < keyZ b
  · rw [if_pos h1, if_neg (by omega), if_pos h1]; rfl
  · by_cases h2 : keyZ b < keyZ a
    · rw [if_pos h2, if_neg h1, if_pos h2]; rfl
    · rw [if_neg h1, if_neg h2, if_neg h2, if_neg h1]; rfl
theorem cmp_self (a : Nat) : cmpZ a a = 0 := by unfold cmpZ; rw [if_neg (by omega), if_neg (by omega)]
theorem cmp_le (a b : Nat) : cmpZ a b ≤ 0 ↔ keyZ a ≤ keyZ b := by
  unfold cmpZ
  by_cases h1 : keyZ a < keyZ b
  · rw [if_pos h1]; omega
  · by_cases h2 : keyZ b < keyZ a
    · rw [if_neg h1, if_pos h2]; omega
    · rw [if_neg h1, if_neg h2]; omega
theorem cmp_lt (a b : Nat) : cmpZ a b < 0 ↔ keyZ a < keyZ b := by
  unfold cmpZ
  by_cases h1 : keyZ a < keyZ b
  · rw [if_pos h1]; omega
  · by_cases h2 : keyZ b < keyZ a
    · rw [if_neg h1, if_pos h2]; omega
    · rw [if_neg h1, if_neg h2]; omega
theorem key_top (a b : Nat) : keyZ (topB a b) = max (keyZ a) (keyZ b) := by
  unfold topB
  by_cases h : cmpZ a b < 0
  · rw [if_pos h]; have := (cmp_lt a b).1 h; omega
  · rw [if_neg h]; have := mt (cmp_lt a b).2 h; omega

theorem inf_gives (n : Nat) (H : Heap) : Gives Tryd.prog 17 [.int .i64 (-1)] n H fun v n' H' => v = .float .f64 18442240474082181120 ∧ n' = n ∧ H' = H := by
  refine Gives.of orders ok17 (Nat.le_of_ble_eq_true rfl) ?_
-- function 17
  repeat (first | apply WK.seq | apply WK.block | apply WK.skipSeq | apply WK.skipBlock | apply WK.retSeq | apply WK.retBlock | apply WK.exitSeq | apply WK.exitHere | refine WK.exitOn rfl ?_ | ((first | (refine WK.rgn ?_ ?_; kernel_rfl) | refine AtCall.now ?_); simp (config := { maxSteps := 1000000 }) only [SS, forall_const, wx, tguard, acallee, top, tval, fput, tor, vsh, vbin, Int.reduceEq, Int.reduceNeg, Nat.reduceGT, Nat.reduceLT, Nat.reduceLeDiff, Nat.reduceEqDiff, ↓reduceIte, reduceCtorEq, Int.reduceToNat, Int.reduceLE, Int.reduceLT, Nat.reduceAdd, Nat.reduceMul, show ((0 : Int) ≤ -1) = False by simp, ext_frombits]) | (refine WK.condT ?_ ?_; focus (simp only [ev_tmp, ev_const, fset_apply, Nat.reduceEqDiff, ↓reduceIte, decide_true, decide_false, show ((0 : Int) ≤ -1) = False by simp, ext_frombits]; done)) | (refine WK.condF ?_ ?_; focus (simp only [ev_tmp, ev_const, fset_apply, Nat.reduceEqDiff, ↓reduceIte, decide_true, decide_false, show ((0 : Int) ≤ -1) = False by simp, ext_frombits]; done)))
  (first | refine WK.retNil ⟨Or.inr rfl, _, rfl, ?_, ?_⟩ | refine WK.skipNil ⟨Or.inl rfl, _, rfl, ?_, ?_⟩)
  · exact fun _ _ => rfl
  · simp only [packed, fset_apply, Nat.reduceEqDiff, ↓reduceIte, List.getD_cons_zero, List.getD_cons_succ]
    simp
theorem nan0_gives (n : Nat) (H : Heap) : Gives Tryd.prog 18 [] n H fun v n' H' => v = .float .f64 9221120237041090561 ∧ n' = n ∧ H' = H := by
  refine Gives.of orders ok18 (Nat.le_of_ble_eq_true rfl) ?_
-- function 18
  repeat (first | apply WK.seq | apply WK.block | apply WK.skipSeq | apply WK.skipBlock | apply WK.retSeq | apply WK.retBlock | apply WK.exitSeq | apply WK.exitHere | refine WK.exitOn rfl ?_ | ((first | (refine WK.rgn ?_ ?_; kernel_rfl) | refine AtCall.now ?_); simp (config := { maxSteps := 1000000 }) only [SS, forall_const, wx, tguard, acallee, top, tval, fput, Int.reduceEq, Int.reduceNeg, Nat.reduceGT, Nat.reduceLT, Nat.reduceLeDiff, Nat.reduceEqDiff, ↓reduceIte, reduceCtorEq, Int.reduceToNat, Int.reduceLE, Int.reduceLT, Nat.reduceAdd, Nat.reduceMul, ext_frombits]) | (refine WK.condT ?_ ?_; focus (simp only [ev_tmp, ev_const, fset_apply, Nat.reduceEqDiff, ↓reduceIte, decide_true, decide_false, ext_frombits]; done)) | (refine WK.condF ?_ ?_; focus (simp only [ev_tmp, ev_const, fset_apply, Nat.reduceEqDiff, ↓reduceIte, decide_true, decide_false, ext_frombits]; done)))
  (first | refine WK.retNil ⟨Or.inr rfl, _, rfl, ?_, ?_⟩ | refine WK.skipNil ⟨Or.inl rfl, _, rfl, ?_, ?_⟩)
  · exact fun _ _ => rfl
  · simp only [packed, fset_apply, Nat.reduceEqDiff, ↓reduceIte, List.getD_cons_zero, List.getD_cons_succ]
    simp
theorem copysign_ev (n : Nat) (H : Heap) : Gives Tryd.prog 19 [.float .f64 0, .float .f64 13830554455654793216] n H fun v n' H' => v = .float .f64 9223372036854775808 ∧ n' = n ∧ H' = H :=
  Gives.ev orders oks (k := 50) (by kernel_rfl)

/-! ### Keys: their bounds; and what stands ahead as a number -/
theorem key_val {c : Nat} (hc : c < 18446744073709551616) : keyZ c = if c % 9223372036854775808 > 9218868437227405312 then 18446744073709551615 else if 9223372036854775808 ≤ c then ((18446744073709551615 - c : Nat) : Int) else ((c + 9223372036854775808 : Nat) : Int) := by
  unfold keyZ
  rw [realB_eq hc, nanB_eq hc, not_u64 c hc, shr_nat]
  by_cases h1 : c % 9223372036854775808 > 9218868437227405312
  · simp [h1]
  · have h2 : (!decide (c % 9223372036854775808 > 9218868437227405312)) = true := by simp; omega
    rw [if_pos h2, if_neg h1]
    by_cases h3 : 9223372036854775808 ≤ c
    · rw [if_pos h3, if_pos (by omega)]
    · rw [if_neg h3, if_neg (by omega)]
      have h := or_u64 c 9223372036854775808 hc (by omega)
      have h' : IntKind.u64.wrap (BitVec.ofInt IntKind.u64.bits (c : Int) ||| BitVec.ofInt IntKind.u64.bits 9223372036854775808).toNat = ((c ||| 9223372036854775808 : Nat) : Int) := h
      rw [h', show (9223372036854775808 : Nat) = 2 ^ 63 by rfl, or_high c 63 (by omega)]
theorem key_le_nan {c : Nat} (hc : c < 18446744073709551616) : keyZ c ≤ keyZ 9221120237041090561 := by
  have e : keyZ 9221120237041090561 = 18446744073709551615 := by rw [key_val (by omega)]; rfl
  rw [e, key_val hc]
  split
  · omega
  · split <;> omega
theorem key_ge_inf {c : Nat} (hc : c < 18446744073709551616) : keyZ 18442240474082181120 ≤ keyZ c := by
  have e : keyZ 18442240474082181120 = 4503599627370495 := by rw [key_val (by omega)]; rfl
  rw [e, key_val hc]
  split
  · omega
  · split <;> omega

/-- The magnitude of a rung, in units of the least place. -/
def magV (r : Nat) : Nat := if r < 4503599627370496 then r else (4503599627370496 + r % 4503599627370496) * 2 ^ (r / 4503599627370496 - 1)
theorem magV_step (r : Nat) : magV r < magV (r + 1) := by
  unfold magV
  by_cases h1 : r + 1 < 4503599627370496
  · rw [if_pos (by omega), if_pos h1]; omega
  · rw [if_neg h1]
    by_cases h2 : r < 4503599627370496
    · rw [if_pos h2]
      have : r + 1 = 4503599627370496 := by omega
      rw [this]; simp; omega
    · rw [if_neg h2]
      by_cases h3 : (r + 1) % 4503599627370496 = 0
      · have e1 : (r + 1) / 4503599627370496 = r / 4503599627370496 + 1 := by omega
        have e2 : r % 4503599627370496 = 4503599627370495 := by omega
        have e3 : r / 4503599627370496 + 1 - 1 = (r / 4503599627370496 - 1) + 1 := by omega
        rw [h3, e1, e2, e3, Nat.pow_succ]
        have := Nat.two_pow_pos (r / 4503599627370496 - 1)
        generalize 2 ^ (r / 4503599627370496 - 1) = p at *
        omega
      · have e1 : (r + 1) / 4503599627370496 = r / 4503599627370496 := by omega
        have e2 : (r + 1) % 4503599627370496 = r % 4503599627370496 + 1 := by omega
        rw [e1, e2]
        exact Nat.mul_lt_mul_of_pos_right (by omega) (Nat.two_pow_pos _)
theorem magV_lt {r s : Nat} (h : r < s) : magV r < magV s := by
  induction s with
  | zero => omega
  | succ s ih =>
    rcases Nat.lt_or_ge r s with g | g
    · exact Nat.lt_trans (ih g) (magV_step s)
    · have : r = s := by omega
      subst this; exact magV_step r
theorem magV_le {r s : Nat} (h : r ≤ s) : magV r ≤ magV s := by
  rcases Nat.lt_or_ge r s with g | g
  · exact Nat.le_of_lt (magV_lt g)
  · have : r = s := by omega
    subst this; exact Nat.le_refl _

open Ieee in
/-- A number's word, as a signed multiple of the least place. -/
theorem read_num {b : Nat} (hb : b < 18446744073709551616) (hr : b % 9223372036854775808 < 9218868437227405312) :
    ∃ m e, Format.read double b = .number (decide (9223372036854775808 ≤ b)) m e ∧ -1074 ≤ e ∧ m * 2 ^ (e + 1074).toNat = magV (b % 9223372036854775808) := by
  have hs : (b / 9223372036854775808 % 2 == 1) = decide (9223372036854775808 ≤ b) := by
    rw [show (b / 9223372036854775808 % 2 == 1) = decide (b / 9223372036854775808 % 2 = 1) from rfl, decide_eq_decide]; omega
  rw [read_word]
  by_cases h1 : b % 9223372036854775808 < 4503599627370496
  · refine ⟨b % 9223372036854775808, -1074, by rw [if_pos h1, hs], Int.le_refl _, ?_⟩
    unfold magV; rw [if_pos h1]; simp
  · refine ⟨4503599627370496 + b % 9223372036854775808 % 4503599627370496, -1074 + (b % 9223372036854775808 / 4503599627370496 - 1 : Nat), by rw [if_neg h1, if_pos hr, hs], by omega, ?_⟩
    unfold magV; rw [if_neg h1]
    congr 2
    omega
open Ieee in
theorem order_lt {a b : Nat} (ha : a < 18446744073709551616) (hb : b < 18446744073709551616) (h : Format.order double a b = some .lt) : keyZ a < keyZ b := by
  rw [key_val ha, key_val hb]
  have na : ¬ a % 9223372036854775808 > 9218868437227405312 := by
    intro hn
    unfold Format.order at h
    rw [read_word (b := a), if_neg (by omega), if_neg (by omega), if_neg (by omega)] at h
    cases h
  have nb : ¬ b % 9223372036854775808 > 9218868437227405312 := by
    intro hn
    unfold Format.order at h
    rw [read_word (b := b), if_neg (by omega), if_neg (by omega), if_neg (by omega)] at h
    generalize Format.read double a = d at h
    cases d <;> cases h
  rw [if_neg na, if_neg nb]
  have sg : ∀ c : Nat, c < 18446744073709551616 → (c / 9223372036854775808 % 2 == 1) = decide (9223372036854775808 ≤ c) := by
    intro c hc
    rw [show (c / 9223372036854775808 % 2 == 1) = decide (c / 9223372036854775808 % 2 = 1) from rfl, decide_eq_decide]; omega
  by_cases ia : a % 9223372036854775808 = 9218868437227405312
  · unfold Format.order at h
    rw [read_word (b := a), if_neg (by omega), if_neg (by omega), if_pos ia, sg a ha] at h
    by_cases ib : b % 9223372036854775808 = 9218868437227405312
    · rw [read_word (b := b), if_neg (by omega), if_neg (by omega), if_pos ib, sg b hb] at h
      by_cases h3 : 9223372036854775808 ≤ a <;> by_cases h4 : 9223372036854775808 ≤ b <;> simp [Datum.order, h3, h4, compare, compareOfLessAndEq] at h ⊢ <;> omega
    · obtain ⟨m, e, hm, _⟩ := read_num hb (by omega)
      rw [hm] at h
      by_cases h3 : 9223372036854775808 ≤ a
      · rw [if_pos h3]; split <;> omega
      · simp [Datum.order, h3] at h
  · obtain ⟨m, e, hm, he, hv⟩ := read_num ha (by omega)
    unfold Format.order at h
    rw [hm] at h
    by_cases ib : b % 9223372036854775808 = 9218868437227405312
    · rw [read_word (b := b), if_neg (by omega), if_neg (by omega), if_pos ib, sg b hb] at h
      by_cases h4 : 9223372036854775808 ≤ b
      · simp [Datum.order, h4] at h
      · rw [if_neg h4]; split <;> omega
    · obtain ⟨m', e', hm', he', hv'⟩ := read_num hb (by omega)
      rw [hm'] at h
      simp only [Datum.order, Option.some.injEq] at h
      generalize hbase : min e e' = base at h
      have hb1 : -1074 ≤ base := by omega
      have sc : ∀ (s : Bool) (q : Nat) (x : Int), base ≤ x → signed s q (x - base).toNat * ((2 ^ (base + 1074).toNat : Nat) : Int) = (if s = true then -((q * 2 ^ (x + 1074).toNat : Nat) : Int) else ((q * 2 ^ (x + 1074).toNat : Nat) : Int)) := by
        intro s q x hx
        have e1 : q * 2 ^ (x + 1074).toNat = (q * 2 ^ (x - base).toNat) * 2 ^ (base + 1074).toNat := by
          rw [Nat.mul_assoc, ← Nat.pow_add]; congr 2; omega
        unfold signed
        rw [Nat.shiftLeft_eq, e1]
        cases s
        · simp
        · simp [Int.neg_mul]
      have hlt : signed (decide (9223372036854775808 ≤ a)) m (e - base).toNat < signed (decide (9223372036854775808 ≤ b)) m' (e' - base).toNat := by
        simp only [compare, compareOfLessAndEq] at h
        split at h
        · assumption
        · split at h <;> cases h
      have hpos : (0 : Int) < ((2 ^ (base + 1074).toNat : Nat) : Int) := by have := Nat.two_pow_pos (base + 1074).toNat; omega
      have hmul := Int.mul_lt_mul_of_pos_right hlt hpos
      rw [sc _ m e (by omega), sc _ m' e' (by omega), hv, hv'] at hmul
      by_cases h3 : 9223372036854775808 ≤ a <;> by_cases h4 : 9223372036854775808 ≤ b <;> simp only [h3, h4, decide_true, decide_false, if_true, if_false, Bool.false_eq_true] at hmul ⊢
      · have : ¬ (a % 9223372036854775808 ≤ b % 9223372036854775808) := fun hc => by have := magV_le hc; omega
        omega
      · omega
      · omega
      · have : ¬ (b % 9223372036854775808 ≤ a % 9223372036854775808) := fun hc => by have := magV_le hc; omega
        omega
end Go.Proofs.YtddpnhhgmfaloaaDoor
