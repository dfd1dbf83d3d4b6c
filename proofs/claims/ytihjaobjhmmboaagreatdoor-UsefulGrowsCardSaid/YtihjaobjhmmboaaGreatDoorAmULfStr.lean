/- A part of a proof. Its conditions: none. -/
import Derived.Test.YtihjaobjhmmboaaGreatDoorAmULfNan
import Derived.Test.YtihjaobjhmmboaaGreatDoorAmC
import Derived.Test.YtihjaobjhmmboaaGreatDoorAmUFacts
import Derived.Test.YtihjaobjhmmboaaGreatDoorAmD
set_option linter.all false
namespace Go.Proofs.YtihjaobjhmmboaaGreatDoor
open Go.AM
set_option maxRecDepth 100000
theorem wrap_range (x : Int) : -9223372036854775808 ≤ IntKind.wrap .i64 x ∧ IntKind.wrap .i64 x ≤ 9223372036854775807 := by
 simp only [IntKind.wrap, IntKind.signed, IntKind.bits]
 simp
 omega
def toldB (b : Nat) : Prop := nanB b = true ∨ sameB b 9218868437227405312 = true ∨ sameB b 18442240474082181120 = true ∨ ∃ (m q a : Nat), m < 1000000000000000 ∧ Ieee.Format.div Ieee.double (FloatKind.nearest .f64 (m : Int)) 4696837146684686336 = some q ∧ Ieee.Format.order Ieee.double q a = some .eq ∧ (a = b ∨ (a = b ^^^ 2 ^ 63 ∧ Ieee.Format.order Ieee.double b 0 = some .lt))
theorem told_gives (b : Nat) (hb : b < 2 ^ 64) (n : Nat) (H : Heap) : Gives Tryz.prog 65 [.float .f64 b] n H fun v n' H' => (∃ t, v = .bool t ∧ (t = true → toldB b)) ∧ n' = n ∧ H' = H := by
 refine Gives.of orders ok65 (Nat.le_of_ble_eq_true rfl) ?_
 repeat (first | refine qqn rfl ?_ | ((first | refine qqr ?_ | refine qqt ?_); simp only [SS, qx12, vconv, vun, simprocAttr, ff_65]) | (refine qqj ?_ ?_; focus (simp only [qqs, Nat.reduceEqDiff, ↓reduceIte, ff_65]; done)) | (refine qqk ?_ ?_; focus (simp only [qqs, Nat.reduceEqDiff, ↓reduceIte, ff_65]; done)))
 refine AtCall.by (read_inf n H) ?_
 rintro v n' H' hk ⟨rfl, rfl, rfl⟩
 simp only [SS, qx12, vconv, vun, simprocAttr, ff_65]
 repeat (first | refine qqn rfl ?_ | ((first | refine qqr ?_ | refine qqt ?_); simp only [SS, qx12, vconv, vun, simprocAttr, ff_65]) | (refine qqj ?_ ?_; focus (simp only [qqs, Nat.reduceEqDiff, ↓reduceIte, ff_65]; done)) | (refine qqk ?_ ?_; focus (simp only [qqs, Nat.reduceEqDiff, ↓reduceIte, ff_65]; done)))
 refine AtCall.by (read_ninf _ _) ?_
 rintro v n' H' hk ⟨rfl, rfl, rfl⟩
 simp only [SS, qx12, vconv, vun, simprocAttr, ff_65]
 repeat (first | refine qqn rfl ?_ | ((first | refine qqr ?_ | refine qqt ?_); simp only [SS, qx12, vconv, vun, simprocAttr, ff_65]) | (refine qqj ?_ ?_; focus (simp only [qqs, Nat.reduceEqDiff, ↓reduceIte, ff_65]; done)) | (refine qqk ?_ ?_; focus (simp only [qqs, Nat.reduceEqDiff, ↓reduceIte, ff_65]; done)))
 refine AtCall.by (nan_gives b _ _) ?_
 rintro v n' H' hk ⟨rfl, rfl, rfl⟩
 cases h1 : nanB b
 case true =>
  simp only [SS, qx12, vconv, vun, simprocAttr, ff_65]
  repeat (first | refine qqn rfl ?_ | ((first | refine qqr ?_ | refine qqt ?_); simp only [SS, qx12, vconv, vun, simprocAttr, ff_65]) | (refine qqj ?_ ?_; focus (simp only [qqs, Nat.reduceEqDiff, ↓reduceIte, ff_65]; done)) | (refine qqk ?_ ?_; focus (simp only [qqs, Nat.reduceEqDiff, ↓reduceIte, ff_65]; done)))
  first | refine qqf ?_ ?_ | refine qqg ?_ ?_
  ·exact fun _ _ => rfl
  ·simp only [packed, qv, Nat.reduceEqDiff, ↓reduceIte, ff_65]
   refine ⟨⟨_, rfl, fun _ => .inl h1⟩, ?_⟩
   simp
 simp only [SS, qx12, vconv, vun, simprocAttr, ff_65]
 refine AtCall.by (sameB_gives b _ _ _) ?_
 rintro v n' H' hk ⟨rfl, rfl, rfl⟩
 cases h2 : sameB b 9218868437227405312
 case true =>
  simp only [SS, qx12, vconv, vun, simprocAttr, ff_65]
  repeat (first | refine qqn rfl ?_ | ((first | refine qqr ?_ | refine qqt ?_); simp only [SS, qx12, vconv, vun, simprocAttr, ff_65]) | (refine qqj ?_ ?_; focus (simp only [qqs, Nat.reduceEqDiff, ↓reduceIte, ff_65]; done)) | (refine qqk ?_ ?_; focus (simp only [qqs, Nat.reduceEqDiff, ↓reduceIte, ff_65]; done)))
  first | refine qqf ?_ ?_ | refine qqg ?_ ?_
  ·exact fun _ _ => rfl
  ·simp only [packed, qv, Nat.reduceEqDiff, ↓reduceIte, ff_65]
   refine ⟨⟨_, rfl, fun _ => .inr (.inl h2)⟩, ?_⟩
   simp
 simp only [SS, qx12, vconv, vun, simprocAttr, ff_65]
 refine AtCall.by (sameB_gives b _ _ _) ?_
 rintro v n' H' hk ⟨rfl, rfl, rfl⟩
 cases h3 : sameB b 18442240474082181120
 case true =>
  simp only [SS, qx12, vconv, vun, simprocAttr, ff_65]
  repeat (first | refine qqn rfl ?_ | ((first | refine qqr ?_ | refine qqt ?_); simp only [SS, qx12, vconv, vun, simprocAttr, ff_65]) | (refine qqj ?_ ?_; focus (simp only [qqs, Nat.reduceEqDiff, ↓reduceIte, ff_65]; done)) | (refine qqk ?_ ?_; focus (simp only [qqs, Nat.reduceEqDiff, ↓reduceIte, ff_65]; done)))
  first | refine qqf ?_ ?_ | refine qqg ?_ ?_
  ·exact fun _ _ => rfl
  ·simp only [packed, qv, Nat.reduceEqDiff, ↓reduceIte, ff_65]
   refine ⟨⟨_, rfl, fun _ => .inr (.inr (.inl h3))⟩, ?_⟩
   simp
 simp only [SS, qx12, vconv, vun, simprocAttr, ff_65]
 repeat (first | refine qqn rfl ?_ | ((first | refine qqr ?_ | refine qqt ?_); simp only [SS, qx12, vconv, vun, simprocAttr, ff_65]) | (refine qqj ?_ ?_; focus (simp only [qqs, Nat.reduceEqDiff, ↓reduceIte, ff_65]; done)) | (refine qqk ?_ ?_; focus (simp only [qqs, Nat.reduceEqDiff, ↓reduceIte, ff_65]; done)))
 refine WK.cut (fun s => ∃ a, s.n = n' ∧ s.H = H' ∧ s.f 7 = .float .f64 a ∧ (Ieee.Format.order Ieee.double a 4741671816366391296 = some .lt → (∀ m e, Ieee.Format.read Ieee.double a = .number true m e → m = 0) ∧ Ieee.Format.read Ieee.double a ≠ .infinity true) ∧ (a = b ∨ (a = b ^^^ 2 ^ 63 ∧ Ieee.Format.order Ieee.double b 0 = some .lt))) ?_ ?_
 ·by_cases h4 : (FloatKind.f64.format.order b 0 == some .lt) = true
  ·repeat (first | refine qqn rfl ?_ | ((first | refine qqr ?_ | refine qqt ?_); simp only [SS, qx12, vconv, vun, simprocAttr, h4, ff_65]) | (refine qqj ?_ ?_; focus (simp only [qqs, Nat.reduceEqDiff, ↓reduceIte, h4, ff_65]; done)) | (refine qqk ?_ ?_; focus (simp only [qqs, Nat.reduceEqDiff, ↓reduceIte, h4, ff_65]; done)))
   refine WK.skipNil ⟨rfl, b ^^^ 2 ^ 63, rfl, rfl, rfl, fun h => neg_ok hb (by simpa [FloatKind.format] using h4) h, .inr ⟨rfl, by simpa [FloatKind.format] using h4⟩⟩
  ·repeat (first | refine qqn rfl ?_ | ((first | refine qqr ?_ | refine qqt ?_); simp only [SS, qx12, vconv, vun, simprocAttr, h4, ff_65]) | (refine qqj ?_ ?_; focus (simp only [qqs, Nat.reduceEqDiff, ↓reduceIte, h4, ff_65]; done)) | (refine qqk ?_ ?_; focus (simp only [qqs, Nat.reduceEqDiff, ↓reduceIte, h4, ff_65]; done)))
   refine WK.skipNil ⟨rfl, b, rfl, rfl, rfl, fun h => pos_ok (by simpa [FloatKind.format] using h4), .inl rfl⟩
 rintro ⟨f, n', H'⟩ ⟨a, rfl, rfl, f7, ha, hab⟩
 simp only at f7
 by_cases h5 : (FloatKind.f64.format.order a 4741671816366391296 == some .lt) = true
 ·have h5' : Ieee.Format.order Ieee.double a 4741671816366391296 = some .lt := by simpa [FloatKind.format] using h5
  obtain ⟨r1, r2, z, e1, e2, e3, e4⟩ := told_ok h5' (ha h5').1 (ha h5').2
  have e1 : FloatKind.f64.format.mul a 4696837146684686336 = some r1 := e1
  have e2 : FloatKind.f64.format.add r1 4602678819172646912 = some r2 := e2
  have e3 : (FloatKind.f64.decode r2).toInt .zero = some z := e3
  have e5 : IntKind.i64.min ≤ z := by show -9223372036854775808 ≤ z; omega
  have e6 : z ≤ IntKind.i64.max := by show z ≤ 9223372036854775807; omega
  repeat (first | refine qqn rfl ?_ | ((first | refine qqr ?_ | refine qqt ?_); simp only [SS, qx12, vconv, vun, simprocAttr, f7, h5, e1, e2, e3, e5, e6, ff_65]) | (refine qqj ?_ ?_; focus (simp only [qqs, Nat.reduceEqDiff, ↓reduceIte, f7, h5, e1, e2, e3, e5, e6, ff_65]; done)) | (refine qqk ?_ ?_; focus (simp only [qqs, Nat.reduceEqDiff, ↓reduceIte, f7, h5, e1, e2, e3, e5, e6, ff_65]; done)))
  refine WK.loop (fun k s => ∃ d : Int, s.n = n' ∧ s.H = H' ∧ s.f 7 = .float .f64 a ∧ s.f 8 = .int .i64 z ∧ s.f 9 = .int .i64 d ∧ -2 ≤ d ∧ d ≤ 3 ∧ (k : Int) = 3 - d) 5 ?_ ?_
  ·exact ⟨-2, rfl, rfl, f7, rfl, rfl, by omega, by omega, by omega⟩
  rintro k ⟨f, n', H'⟩ ⟨d, rfl, rfl, f7, f8, f9, d1, d2, hk⟩ ih
  simp only at f7 f8 f9 ih
  by_cases g1 : d ≤ 2
  ·by_cases g2 : 0 ≤ IntKind.i64.wrap (z + d)
   ·by_cases g3 : IntKind.i64.wrap (z + d) < 1000000000000000
    ·obtain ⟨q, hq⟩ := div_ok (IntKind.i64.wrap (z + d)) (by have := wrap_range (z + d); omega)
     have hq : FloatKind.f64.format.div (FloatKind.f64.nearest (IntKind.i64.wrap (z + d))) 4696837146684686336 = some q := hq
     by_cases g4 : (FloatKind.f64.format.order q a == some .eq) = true
     ·repeat (first | refine qqn rfl ?_ | ((first | refine qqr ?_ | refine qqt ?_); simp only [SS, qx12, vconv, vun, simprocAttr, f7, f8, f9, g1, g2, g3, hq, g4, ff_65]) | (refine qqj ?_ ?_; focus (simp only [qqs, Nat.reduceEqDiff, ↓reduceIte, f7, f8, f9, g1, g2, g3, hq, g4, ff_65]; done)) | (refine qqk ?_ ?_; focus (simp only [qqs, Nat.reduceEqDiff, ↓reduceIte, f7, f8, f9, g1, g2, g3, hq, g4, ff_65]; done)))
      first | refine qqf ?_ ?_ | refine qqg ?_ ?_
      ·exact fun _ _ => rfl
      ·simp only [packed, qv, Nat.reduceEqDiff, ↓reduceIte, ff_65]
       refine ⟨⟨_, rfl, fun _ => .inr (.inr (.inr ⟨(IntKind.i64.wrap (z + d)).toNat, q, a, by omega, by rw [Int.toNat_of_nonneg g2]; exact hq, by simpa [FloatKind.format] using g4, hab⟩))⟩, ?_⟩
       simp
     ·repeat (first | refine qqn rfl ?_ | ((first | refine qqr ?_ | refine qqt ?_); simp only [SS, qx12, vconv, vun, simprocAttr, f7, f8, f9, g1, g2, g3, hq, g4, ff_65]) | (refine qqj ?_ ?_; focus (simp only [qqs, Nat.reduceEqDiff, ↓reduceIte, f7, f8, f9, g1, g2, g3, hq, g4, ff_65]; done)) | (refine qqk ?_ ?_; focus (simp only [qqs, Nat.reduceEqDiff, ↓reduceIte, f7, f8, f9, g1, g2, g3, hq, g4, ff_65]; done)))
      refine ih (k - 1) (by omega) _ ⟨d + 1, rfl, rfl, f7, f8, ?_, by omega, by omega, by omega⟩
      simp only [packed, qv, Nat.reduceEqDiff, ↓reduceIte, ff_65]
      rw [wrap_in (by omega) (by omega)]
    ·repeat (first | refine qqn rfl ?_ | ((first | refine qqr ?_ | refine qqt ?_); simp only [SS, qx12, vconv, vun, simprocAttr, f7, f8, f9, g1, g2, g3, ff_65]) | (refine qqj ?_ ?_; focus (simp only [qqs, Nat.reduceEqDiff, ↓reduceIte, f7, f8, f9, g1, g2, g3, ff_65]; done)) | (refine qqk ?_ ?_; focus (simp only [qqs, Nat.reduceEqDiff, ↓reduceIte, f7, f8, f9, g1, g2, g3, ff_65]; done)))
     refine ih (k - 1) (by omega) _ ⟨d + 1, rfl, rfl, f7, f8, ?_, by omega, by omega, by omega⟩
     simp only [packed, qv, Nat.reduceEqDiff, ↓reduceIte, ff_65]
     rw [wrap_in (by omega) (by omega)]
   ·repeat (first | refine qqn rfl ?_ | ((first | refine qqr ?_ | refine qqt ?_); simp only [SS, qx12, vconv, vun, simprocAttr, f7, f8, f9, g1, g2, ff_65]) | (refine qqj ?_ ?_; focus (simp only [qqs, Nat.reduceEqDiff, ↓reduceIte, f7, f8, f9, g1, g2, ff_65]; done)) | (refine qqk ?_ ?_; focus (simp only [qqs, Nat.reduceEqDiff, ↓reduceIte, f7, f8, f9, g1, g2, ff_65]; done)))
    refine ih (k - 1) (by omega) _ ⟨d + 1, rfl, rfl, f7, f8, ?_, by omega, by omega, by omega⟩
    simp only [packed, qv, Nat.reduceEqDiff, ↓reduceIte, ff_65]
    rw [wrap_in (by omega) (by omega)]
  ·repeat (first | refine qqn rfl ?_ | ((first | refine qqr ?_ | refine qqt ?_); simp only [SS, qx12, vconv, vun, simprocAttr, f7, f8, f9, g1, ff_65]) | (refine qqj ?_ ?_; focus (simp only [qqs, Nat.reduceEqDiff, ↓reduceIte, f7, f8, f9, g1, ff_65]; done)) | (refine qqk ?_ ?_; focus (simp only [qqs, Nat.reduceEqDiff, ↓reduceIte, f7, f8, f9, g1, ff_65]; done)))
   first | refine qqf ?_ ?_ | refine qqg ?_ ?_
   ·exact fun _ _ => rfl
   ·simp only [packed, qv, Nat.reduceEqDiff, ↓reduceIte, ff_65]
    refine ⟨⟨_, rfl, fun h => by cases h⟩, ?_⟩
    simp
 ·repeat (first | refine qqn rfl ?_ | ((first | refine qqr ?_ | refine qqt ?_); simp only [SS, qx12, vconv, vun, simprocAttr, f7, h5, ff_65]) | (refine qqj ?_ ?_; focus (simp only [qqs, Nat.reduceEqDiff, ↓reduceIte, f7, h5, ff_65]; done)) | (refine qqk ?_ ?_; focus (simp only [qqs, Nat.reduceEqDiff, ↓reduceIte, f7, h5, ff_65]; done)))
  first | refine qqf ?_ ?_ | refine qqg ?_ ?_
  ·exact fun _ _ => rfl
  ·simp only [packed, qv, Nat.reduceEqDiff, ↓reduceIte, ff_65]
   refine ⟨⟨_, rfl, fun h => by cases h⟩, ?_⟩
   simp
end Go.Proofs.YtihjaobjhmmboaaGreatDoor

namespace Go.Proofs.YtihjaobjhmmboaaGreatDoor
open Go.AM Go.RowKit Ieee
set_option maxRecDepth 100000
theorem same_bits {b c : Nat} (hb : nanB b = false) (hc : nanB c = false) (h : sameB b c = true) : b = c := by
 unfold sameB lessB at h
 rw [hb, hc] at h
 cases h1 : belowB b <;> cases h2 : belowB c <;> simp [h1, h2] at h <;> omega
theorem dig_of (d : Nat) (h : d < 10) : ∃ x : UInt8, x.toNat = 48 + d ∧ isD x = true := by
 have e : (UInt8.ofNat (48 + d)).toNat = 48 + d := by rw [UInt8.toNat_ofNat']; omega
 refine ⟨_, e, ?_⟩
 unfold isD
 rw [e]
 simp; omega
theorem digits_ex (k : Nat) : ∀ N, N < 10 ^ k → ∃ t : List UInt8, t.length = k ∧ t.all isD = true ∧ valL t = N := by
 induction k with
 | zero => intro N h; exact ⟨[], rfl, rfl, by rw [Nat.pow_zero] at h; show 0 = N; omega⟩
 | succ k ih =>
  intro N h
  obtain ⟨t, h1, h2, h3⟩ := ih (N / 10) (by rw [Nat.pow_succ] at h; omega)
  obtain ⟨z, e1, e2⟩ := dig_of (N % 10) (by omega)
  refine ⟨t ++ [z], by simp [h1], by simp [h2, e2], ?_⟩
  rw [valL_snoc, h3, e1]; omega
theorem head_ex (k : Nat) : ∀ N, N < 10 ^ (k + 1) → ∃ t : List UInt8, 1 ≤ t.length ∧ t.length ≤ k + 1 ∧ t.all isD = true ∧ valL t = N ∧ (N = 0 → t.length = 1) ∧ (N ≠ 0 → ∀ x, t.head? = some x → x ≠ 48) := by
 induction k with
 | zero =>
  intro N h
  obtain ⟨z, e1, e2⟩ := dig_of N (by simpa using h)
  refine ⟨[z], by simp, by simp, by simp [e2], ?_, by simp, fun h0 x hx => ?_⟩
  ·unfold valL; simp [e1]
  ·simp at hx
   intro e
   have := congrArg UInt8.toNat (hx.trans e)
   rw [e1] at this
   simp at this
   omega
 | succ k ih =>
  intro N h
  by_cases h10 : N < 10
  ·obtain ⟨t, a, b, c⟩ := ih N (Nat.lt_of_lt_of_le h10 (by rw [Nat.pow_succ]; have : 0 < 10 ^ k := Nat.pow_pos (by omega); omega))
   exact ⟨t, a, by omega, c⟩
  ·obtain ⟨t, a, b, c, d, e, f⟩ := ih (N / 10) (by rw [Nat.pow_succ] at h; omega)
   obtain ⟨z, e1, e2⟩ := dig_of (N % 10) (by omega)
   refine ⟨t ++ [z], by simp, by simp; omega, by simp [c, e2], ?_, fun h0 => by omega, fun h0 x hx => ?_⟩
   ·rw [valL_snoc, d, e1]; omega
   ·refine f (by omega) x ?_
    cases t with
    | nil => simp at a
    | cons y t => simpa using hx
theorem parts_of {h t : List UInt8} (hh : h.all isD = true) : headL (h ++ 46 :: t) = h ∧ tailL (h ++ 46 :: t) = t ∧ hasDot (h ++ 46 :: t) = true := by
 have key : ∀ h : List UInt8, h.all isD = true → (h ++ 46 :: t).takeWhile (· != 46) = h ∧ (h ++ 46 :: t).dropWhile (· != 46) = 46 :: t := by
  intro h
  induction h with
  | nil => intro _; simp
  | cons x h ih =>
   intro hx
   rw [List.all_cons, Bool.and_eq_true] at hx
   obtain ⟨i1, i2⟩ := ih hx.2
   have hne : (x != 46) = true := by
    have h1 := hx.1
    unfold isD at h1
    simp at h1
    rw [bne_iff_ne]
    rintro rfl
    have : (46 : UInt8).toNat = 46 := rfl
    omega
   simp [List.takeWhile_cons, List.dropWhile_cons, hne, i1, i2]
 obtain ⟨a, b⟩ := key h hh
 refine ⟨a, by unfold tailL; rw [b]; rfl, ?_⟩
 unfold hasDot
 simp
theorem near_ten : Format.nearest double false (10 ^ 6) 0 = 4696837146684686336 := by kernel_rfl
theorem text_ex (neg : Bool) {m q : Nat} (hm : m < 1000000000000000) (hq : Format.div double (FloatKind.nearest .f64 (m : Int)) 4696837146684686336 = some q) : ∃ l : List UInt8, okE l = true ∧ fwE l = q + (if neg then 9223372036854775808 else 0) ∧ q < 9223372036854775808 := by
 obtain ⟨h, a1, a2, a3, a4, a5, a6⟩ := head_ex 8 (m / 1000000) (by omega)
 obtain ⟨t, b1, b2, b3⟩ := digits_ex 6 (m % 1000000) (by omega)
 obtain ⟨p1, p2, p3⟩ := parts_of (t := t) a3
 have hval : valL (h ++ t) = m := by rw [valL_append, a4, b1, b3]; omega
 have hquo : quo h t = q := by
  unfold quo
  rw [hval, b1, near_ten]
  have e : FloatKind.nearest .f64 (m : Int) = Format.nearest double false m 0 := by
   show Format.nearest double (decide ((m : Int) < 0)) (m : Int).natAbs 0 = _
   rw [decide_eq_false (by omega), Int.natAbs_natCast]
  rw [← e, hq]; rfl
 have hq63 : q < 9223372036854775808 := by
  have := (quo_ok (h := h) (t := t) a3 b2 (by omega) (by omega)).2
  rwa [hquo] at this
 have hlead : lead0 h = false := by
  unfold lead0
  by_cases h0 : m / 1000000 = 0
  ·rw [a5 h0]; rfl
  ·cases h with
   | nil => simp at a1
   | cons x h =>
    have := a6 h0 x rfl
    simp [this]
 have hm0 : hasMinus (h ++ 46 :: t) = false := by
  unfold hasMinus
  cases h with
  | nil => simp at a1
  | cons x h =>
   rw [List.all_cons, Bool.and_eq_true] at a3
   have h1 := a3.1
   unfold isD at h1
   simp at h1
   simp
   rintro rfl
   have : (45 : UInt8).toNat = 45 := rfl
   omega
 have hdh : digsB h 1 9 = true := by unfold digsB; rw [a3]; simp; omega
 have hdt : digsB t 1 6 = true := by unfold digsB; rw [b2]; simp; omega
 cases neg with
 | false =>
  have hc : cutM (h ++ 46 :: t) = h ++ 46 :: t := by unfold cutM; rw [hm0]; rfl
  refine ⟨h ++ 46 :: t, ?_, ?_, hq63⟩
  ·unfold okE hs ts
   rw [hc, p1, p2, p3, hdh, hdt, hlead]; rfl
  ·unfold fwE hs ts
   rw [hc, p1, p2, hm0, hquo]
 | true =>
  have hm1 : hasMinus (45 :: (h ++ 46 :: t)) = true := rfl
  have hc : cutM (45 :: (h ++ 46 :: t)) = h ++ 46 :: t := by unfold cutM; rw [hm1]; rfl
  refine ⟨45 :: (h ++ 46 :: t), ?_, ?_, hq63⟩
  ·unfold okE hs ts
   rw [hc, p1, p2, p3, hdh, hdt, hlead]; rfl
  ·unfold fwE hs ts
   rw [hc, p1, p2, hm1, hquo]
theorem short17 {l : List UInt8} (h : okE l = true) : (shortL l).length ≤ 17 := by
 obtain ⟨_, hd1, hd2, _, hta, htl6, _⟩ := ok_facts h
 have hz : (trimZ (ts l)).length ≤ (ts l).length := by
  unfold trimZ
  rw [List.length_reverse]
  refine Nat.le_trans (List.dropWhile_sublist _).length_le ?_
  rw [List.length_reverse]; exact Nat.le_refl _
 unfold shortL
 rw [if_pos h]
 rw [List.length_append, List.length_append]
 have h1 : (if hasMinus l then [45] else [] : List UInt8).length ≤ 1 := by split <;> simp
 have h2 : (if trimZ (ts l) = [] then [] else 46 :: trimZ (ts l) : List UInt8).length ≤ 7 := by split <;> simp <;> omega
 omega
theorem told_text {b : Nat} (hb : b < 2 ^ 64) (ht : toldB b) : ∃ l : List UInt8, l.length ≤ 40 ∧ ∀ (n : Nat) (H : Heap), GH n H → Gives Tryz.prog 60 [.float .f64 b] n H fun v _ _ => v = .string (BA l) := by
  have low : ∀ {b : Nat} {s : ByteArray} {n : Nat} {H : Heap}, (Gives Tryz.prog 60 [.float .f64 b] n H fun v n' H' => v = .string s ∧ n' = n ∧ H' = H) → Gives Tryz.prog 60 [.float .f64 b] n H fun v n' H' => v = .string s := by
    rintro b s n H ⟨v, n', H', a, c, e, _⟩
    exact ⟨v, n', H', a, c, e⟩
  cases hn : nanB b with
  | true => exact ⟨[110, 97, 110], by simp, fun n H _ => low (text_nan b (by rw [realB_eq (by omega), hn]; rfl) n H)⟩
  | false =>
    rcases ht with h | h | h | ⟨m, q, a, hm, hq, ho, hab⟩
    · rw [hn] at h; cases h
    · obtain rfl := same_bits hn (by kernel_rfl) h
      exact ⟨[105, 110, 102], by simp, fun n H _ => low (text_inf n H)⟩
    · obtain rfl := same_bits hn (by kernel_rfl) h
      exact ⟨[45, 105, 110, 102], by simp, fun n H _ => low (text_ninf n H)⟩
    · have fin : ∀ l, okE l = true → fwE l = b → ∃ l : List UInt8, l.length ≤ 40 ∧ ∀ (n : Nat) (H : Heap), GH n H → Gives Tryz.prog 60 [.float .f64 b] n H fun v _ _ => v = .string (BA l) := fun l hl hf =>
        ⟨shortL l, by have := short17 hl; omega, fun n H hw => by
          have h := text_gives hl hw
          rwa [hf] at h⟩
      obtain ⟨l0, hl0, hf0, hq63⟩ := text_ex false hm hq
      obtain ⟨l1, hl1, hf1, _⟩ := text_ex true hm hq
      simp only [if_true, Bool.false_eq_true, if_false, Nat.add_zero] at hf0 hf1
      have o0 : Format.order double 0 0 = some .eq := by kernel_rfl
      have o1 : Format.order double 9223372036854775808 0 = some .eq := by kernel_rfl
      rcases hab with rfl | ⟨rfl, hlt⟩
      · rcases order_eq (by omega) hb ho with e | ⟨h1, h2⟩
        · exact fin l0 hl0 (hf0.trans e)
        · have hq0 : q = 0 := by rcases h1 with h1 | h1 <;> omega
          rcases h2 with h2 | h2
          · exact fin l0 hl0 (by omega)
          · exact fin l1 hl1 (by omega)
      · have h1 : (b ^^^ 2 ^ 63) % 2 ^ 63 = b % 2 ^ 63 := by rw [Nat.xor_mod_two_pow]; simp
        have h2 : (b ^^^ 2 ^ 63) / 2 ^ 63 = (b / 2 ^ 63) ^^^ 1 := by rw [Nat.xor_div_two_pow]
        have hq : b / 2 ^ 63 = 0 ∨ b / 2 ^ 63 = 1 := by omega
        have hx : (b / 2 ^ 63) ^^^ 1 = 1 - b / 2 ^ 63 := by rcases hq with hq | hq <;> rw [hq] <;> rfl
        rw [hx] at h2
        generalize b ^^^ 2 ^ 63 = a at *
        rcases order_eq (by omega) (by omega) ho with e | ⟨h3, h4⟩
        · exact fin l1 hl1 (by omega)
        · exfalso
          have : b = 0 ∨ b = 9223372036854775808 := by rcases h4 with h4 | h4 <;> omega
          rcases this with rfl | rfl
          · rw [o0] at hlt; cases hlt
          · rw [o1] at hlt; cases hlt
theorem gtold_gives {b : Nat} (hb : b < 2 ^ 64) (ht : toldB b) {n : Nat} {H : Heap} (hw : GH n H) : Gives Tryz.prog 50 [.float .f64 b] n H fun v _ _ => ∃ t, v = .bool t := by
 obtain ⟨l, hl, ht⟩ := told_text hb ht
 refine Gives.of orders ok50 (Nat.le_of_ble_eq_true rfl) ?_
 repeat (first | refine qqm rfl ?_ | ((first | refine qqr ?_ | refine qqt ?_); simp only [SS, qx25, simprocAttr]))
 refine AtCall.by (ht n H hw) ?_
 rintro v n2 H2 k2 rfl
 simp only [SS, qx25, simprocAttr]
 refine AtCall.by (readall_gives l hl _ _) ?_
 rintro v n3 H3 k3 ⟨rfl, rfl, rfl⟩
 cases rdO l with
 | false =>
  simp only [SS, qx25, simprocAttr]
  repeat (first | refine qqm rfl ?_ | ((first | refine qqr ?_ | refine qqt ?_); simp only [SS, qx25, simprocAttr]))
  first | refine qqf ?_ ?_ | refine qqg ?_ ?_
  ·exact k2.keep
  ·simp only [packed, qv, Nat.reduceEqDiff, ↓reduceIte]
   exact ⟨_, rfl⟩
 | true =>
  simp only [SS, qx25, simprocAttr]
  repeat (first | refine qqm rfl ?_ | ((first | refine qqr ?_ | refine qqt ?_); simp only [SS, qx25, simprocAttr]))
  refine AtCall.by (keysame_gives _ _ _ _) ?_
  rintro v n4 H4 k4 ⟨rfl, rfl, rfl⟩
  simp only [SS, qx25, simprocAttr]
  repeat (first | refine qqm rfl ?_ | ((first | refine qqr ?_ | refine qqt ?_); simp only [SS, qx25, simprocAttr]))
  first | refine qqf ?_ ?_ | refine qqg ?_ ?_
  ·exact k2.keep
  ·simp only [packed, qv, Nat.reduceEqDiff, ↓reduceIte]
   exact ⟨_, rfl⟩
end Go.Proofs.YtihjaobjhmmboaaGreatDoor

namespace Go.Proofs.YtihjaobjhmmboaaGreatDoor
open Go.AM
set_option maxRecDepth 100000
def letter (x : Int) : Bool := decide (97 ≤ x) && decide (x ≤ 122) || decide (65 ≤ x) && decide (x ≤ 90)
def digit (x : Int) : Bool := decide (48 ≤ x) && decide (x ≤ 57)
def inner (x : Int) : Bool := letter x || digit x || decide (x = 95)
def quotable (x : Int) : Bool := decide (32 ≤ x) && decide (x ≤ 126) && !decide (x = 39)
theorem letter_gives (x : Int) (n : Nat) (H : Heap) : Gives Tryz.prog 62 [.int .u8 x] n H fun v n' H' => v = .bool (letter x) ∧ n' = n ∧ H' = H := by
 refine Gives.of orders ok62 (Nat.le_of_ble_eq_true rfl) ?_
 by_cases h1 : 97 ≤ x
 ·by_cases h2 : x ≤ 122
  ·repeat (first | refine qqm rfl ?_ | ((first | refine qqr ?_ | refine qqt ?_); simp only [SS, qx1, simprocAttr, h1, h2]))
   first | refine qqf ?_ ?_ | refine qqg ?_ ?_
   ·exact fun _ _ => rfl
   ·simp only [packed, qv, Nat.reduceEqDiff, ↓reduceIte, letter, h1, h2]
    simp
  ·by_cases h3 : 65 ≤ x
   ·by_cases h4 : x ≤ 90
    ·omega
    ·repeat (first | refine qqm rfl ?_ | ((first | refine qqr ?_ | refine qqt ?_); simp only [SS, qx1, simprocAttr, h1, h2, h3, h4]))
     first | refine qqf ?_ ?_ | refine qqg ?_ ?_
     ·exact fun _ _ => rfl
     ·simp only [packed, qv, Nat.reduceEqDiff, ↓reduceIte, letter, h1, h2, h3, h4]
      simp
   ·omega
 ·by_cases h3 : 65 ≤ x
  ·by_cases h4 : x ≤ 90
   ·repeat (first | refine qqm rfl ?_ | ((first | refine qqr ?_ | refine qqt ?_); simp only [SS, qx1, simprocAttr, h1, h3, h4]))
    first | refine qqf ?_ ?_ | refine qqg ?_ ?_
    ·exact fun _ _ => rfl
    ·simp only [packed, qv, Nat.reduceEqDiff, ↓reduceIte, letter, h1, h3, h4]
     simp
   ·repeat (first | refine qqm rfl ?_ | ((first | refine qqr ?_ | refine qqt ?_); simp only [SS, qx1, simprocAttr, h1, h3, h4]))
    first | refine qqf ?_ ?_ | refine qqg ?_ ?_
    ·exact fun _ _ => rfl
    ·simp only [packed, qv, Nat.reduceEqDiff, ↓reduceIte, letter, h1, h3, h4]
     simp
  ·repeat (first | refine qqm rfl ?_ | ((first | refine qqr ?_ | refine qqt ?_); simp only [SS, qx1, simprocAttr, h1, h3]))
   first | refine qqf ?_ ?_ | refine qqg ?_ ?_
   ·exact fun _ _ => rfl
   ·simp only [packed, qv, Nat.reduceEqDiff, ↓reduceIte, letter, h1, h3]
    simp
theorem digit_gives (x : Int) (n : Nat) (H : Heap) : Gives Tryz.prog 80 [.int .u8 x] n H fun v n' H' => v = .bool (digit x) ∧ n' = n ∧ H' = H := by
 refine Gives.of orders ok80 (Nat.le_of_ble_eq_true rfl) ?_
 by_cases h1 : 48 ≤ x
 ·by_cases h2 : x ≤ 57
  ·repeat (first | refine qqm rfl ?_ | ((first | refine qqr ?_ | refine qqt ?_); simp only [SS, qx1, simprocAttr, h1, h2]))
   first | refine qqf ?_ ?_ | refine qqg ?_ ?_
   ·exact fun _ _ => rfl
   ·simp only [packed, qv, Nat.reduceEqDiff, ↓reduceIte, digit, h1, h2]
    simp
  ·repeat (first | refine qqm rfl ?_ | ((first | refine qqr ?_ | refine qqt ?_); simp only [SS, qx1, simprocAttr, h1, h2]))
   first | refine qqf ?_ ?_ | refine qqg ?_ ?_
   ·exact fun _ _ => rfl
   ·simp only [packed, qv, Nat.reduceEqDiff, ↓reduceIte, digit, h1, h2]
    simp
 ·repeat (first | refine qqm rfl ?_ | ((first | refine qqr ?_ | refine qqt ?_); simp only [SS, qx1, simprocAttr, h1]))
  first | refine qqf ?_ ?_ | refine qqg ?_ ?_
  ·exact fun _ _ => rfl
  ·simp only [packed, qv, Nat.reduceEqDiff, ↓reduceIte, digit, h1]
   simp
theorem quotable_gives (x : Int) (n : Nat) (H : Heap) : Gives Tryz.prog 64 [.int .u8 x] n H fun v n' H' => v = .bool (quotable x) ∧ n' = n ∧ H' = H := by
 refine Gives.of orders ok64 (Nat.le_of_ble_eq_true rfl) ?_
 by_cases h1 : 32 ≤ x
 ·by_cases h2 : x ≤ 126
  ·repeat (first | refine qqm rfl ?_ | ((first | refine qqr ?_ | refine qqt ?_); simp only [SS, qx1, simprocAttr, h1, h2, ff_64]))
   first | refine qqf ?_ ?_ | refine qqg ?_ ?_
   ·exact fun _ _ => rfl
   ·simp only [packed, qv, Nat.reduceEqDiff, ↓reduceIte, quotable, h1, h2, ff_64]
    simp
  ·repeat (first | refine qqm rfl ?_ | ((first | refine qqr ?_ | refine qqt ?_); simp only [SS, qx1, simprocAttr, h1, h2, ff_64]))
   first | refine qqf ?_ ?_ | refine qqg ?_ ?_
   ·exact fun _ _ => rfl
   ·simp only [packed, qv, Nat.reduceEqDiff, ↓reduceIte, quotable, h1, h2, ff_64]
    simp
 ·repeat (first | refine qqm rfl ?_ | ((first | refine qqr ?_ | refine qqt ?_); simp only [SS, qx1, simprocAttr, h1, ff_64]))
  first | refine qqf ?_ ?_ | refine qqg ?_ ?_
  ·exact fun _ _ => rfl
  ·simp only [packed, qv, Nat.reduceEqDiff, ↓reduceIte, quotable, h1, ff_64]
   simp
theorem inner_gives (x : Int) (n : Nat) (H : Heap) : Gives Tryz.prog 63 [.int .u8 x] n H fun v n' H' => v = .bool (inner x) ∧ n' = n ∧ H' = H := by
 refine Gives.of orders ok63 (Nat.le_of_ble_eq_true rfl) ?_
 repeat (first | refine qqm rfl ?_ | ((first | refine qqr ?_ | refine qqt ?_); simp only [SS, qx1, simprocAttr, ff_63]))
 refine AtCall.by (letter_gives x n H) ?_
 rintro v n' H' hk ⟨rfl, rfl, rfl⟩
 by_cases h1 : letter x = true
 ·simp only [SS, qx1, simprocAttr, h1, ff_63]
  repeat (first | refine qqm rfl ?_ | ((first | refine qqr ?_ | refine qqt ?_); simp only [SS, qx1, simprocAttr, h1, ff_63]))
  first | refine qqf ?_ ?_ | refine qqg ?_ ?_
  ·exact fun _ _ => rfl
  ·simp only [packed, qv, Nat.reduceEqDiff, ↓reduceIte, inner, h1, ff_63]
   simp
 ·have h1 : letter x = false := by simpa using h1
  simp only [SS, qx1, simprocAttr, h1, ff_63]
  refine AtCall.by (digit_gives x _ _) ?_
  rintro v n' H' hk ⟨rfl, rfl, rfl⟩
  by_cases h2 : digit x = true
  ·simp only [SS, qx1, simprocAttr, h1, h2, ff_63]
   repeat (first | refine qqm rfl ?_ | ((first | refine qqr ?_ | refine qqt ?_); simp only [SS, qx1, simprocAttr, h1, h2, ff_63]))
   first | refine qqf ?_ ?_ | refine qqg ?_ ?_
   ·exact fun _ _ => rfl
   ·simp only [packed, qv, Nat.reduceEqDiff, ↓reduceIte, inner, h1, h2, ff_63]
    simp
  ·have h2 : digit x = false := by simpa using h2
   simp only [SS, qx1, simprocAttr, h1, h2, ff_63]
   repeat (first | refine qqm rfl ?_ | ((first | refine qqr ?_ | refine qqt ?_); simp only [SS, qx1, simprocAttr, h1, h2, ff_63]))
   first | refine qqf ?_ ?_ | refine qqg ?_ ?_
   ·exact fun _ _ => rfl
   ·simp only [packed, qv, Nat.reduceEqDiff, ↓reduceIte, inner, h1, h2, ff_63]
    simp
end Go.Proofs.YtihjaobjhmmboaaGreatDoor

namespace Go.Proofs.YtihjaobjhmmboaaGreatDoor
open Go.AM
set_option maxRecDepth 100000
theorem bget {s : ByteArray} {i : Nat} (h : i < s.size) : s[i]? = some s[i] := getElem?_pos s i h
theorem isName_gives (s : ByteArray) (n : Nat) (H : Heap) : Gives Tryz.prog 32 [.string s] n H fun v n' H' => (∃ b, v = .bool b) ∧ n' = n ∧ H' = H := by
 refine Gives.of orders ok32 (Nat.le_of_ble_eq_true rfl) ?_
 by_cases h1 : (s.size : Int) < 1
 ·repeat (first | refine qqm rfl ?_ | ((first | refine qqr ?_ | refine qqt ?_); simp only [SS, qx2, vun, simprocAttr, h1, ff_32]))
  first | refine qqf ?_ ?_ | refine qqg ?_ ?_
  ·exact fun _ _ => rfl
  ·simp only [packed, qv, Nat.reduceEqDiff, ↓reduceIte, ff_32]
   simp
 by_cases h2 : (24 : Int) < s.size
 ·repeat (first | refine qqm rfl ?_ | ((first | refine qqr ?_ | refine qqt ?_); simp only [SS, qx2, vun, simprocAttr, h1, h2, ff_32]))
  first | refine qqf ?_ ?_ | refine qqg ?_ ?_
  ·exact fun _ _ => rfl
  ·simp only [packed, qv, Nat.reduceEqDiff, ↓reduceIte, ff_32]
   simp
 have e0 : s[0]? = some s[0] := bget (by omega)
 repeat (first | refine qqm rfl ?_ | ((first | refine qqr ?_ | refine qqt ?_); simp only [SS, qx2, vun, simprocAttr, h1, h2, e0, ff_32]))
 refine AtCall.by (letter_gives _ n H) ?_
 rintro v n' H' hk ⟨rfl, rfl, rfl⟩
 cases h3 : letter s[0].toNat
 ·simp only [SS, qx2, vun, simprocAttr, h1, h2, ff_32]
  repeat (first | refine qqm rfl ?_ | ((first | refine qqr ?_ | refine qqt ?_); simp only [SS, qx2, vun, simprocAttr, h1, h2, ff_32]))
  first | refine qqf ?_ ?_ | refine qqg ?_ ?_
  ·exact fun _ _ => rfl
  ·simp only [packed, qv, Nat.reduceEqDiff, ↓reduceIte, ff_32]
   simp
 simp only [SS, qx2, vun, simprocAttr, h1, h2, ff_32]
 repeat (first | refine qqm rfl ?_ | ((first | refine qqr ?_ | refine qqt ?_); simp only [SS, qx2, vun, simprocAttr, h1, h2, ff_32]))
 refine WK.loop (fun k s' => ∃ i, s'.n = n' ∧ s'.H = H' ∧ s'.f 0 = .string s ∧ s'.f 3 = .int .i64 (i : Nat) ∧ i ≤ s.size ∧ k = s.size - i) s.size ?_ ?_
 ·exact ⟨0, rfl, rfl, rfl, rfl, Nat.zero_le _, rfl⟩
 rintro k ⟨f, n', H'⟩ ⟨i, rfl, rfl, f0, f3, hi, rfl⟩ ih
 simp only at f0 f3 ih
 by_cases hi : i < s.size
 ·have ei : s[i]? = some s[i] := bget hi
  repeat (first | refine qqm rfl ?_ | ((first | refine qqr ?_ | refine qqt ?_); simp only [SS, qx2, vun, simprocAttr, f0, f3, hi, ei, ff_32]))
  refine AtCall.by (inner_gives _ _ _) ?_
  rintro v n' H' hk ⟨rfl, rfl, rfl⟩
  cases h4 : inner s[i].toNat
  ·simp only [SS, qx2, vun, simprocAttr, f0, f3, ff_32]
   repeat (first | refine qqm rfl ?_ | ((first | refine qqr ?_ | refine qqt ?_); simp only [SS, qx2, vun, simprocAttr, f0, f3, ff_32]))
   first | refine qqf ?_ ?_ | refine qqg ?_ ?_
   ·exact fun _ _ => rfl
   ·simp only [packed, qv, Nat.reduceEqDiff, ↓reduceIte, ff_32]
    simp
  ·simp only [SS, qx2, vun, simprocAttr, f0, f3, ff_32]
   repeat (first | refine qqm rfl ?_ | ((first | refine qqr ?_ | refine qqt ?_); simp only [SS, qx2, vun, simprocAttr, f0, f3, ff_32]))
   refine ih (s.size - (i + 1)) (by omega) _ ⟨i + 1, rfl, rfl, f0, ?_, hi, rfl⟩
   simp only [packed, qv, Nat.reduceEqDiff, ↓reduceIte, ff_32]
   rw [wrap_in (by omega) (by omega)]; rfl
 ·repeat (first | refine qqm rfl ?_ | ((first | refine qqr ?_ | refine qqt ?_); simp only [SS, qx2, vun, simprocAttr, f0, f3, hi, ff_32]))
  first | refine qqf ?_ ?_ | refine qqg ?_ ?_
  ·exact fun _ _ => rfl
  ·simp only [packed, qv, Nat.reduceEqDiff, ↓reduceIte, ff_32]
   simp
theorem isQuote_gives (s : ByteArray) (hs : s.size ≤ maxL) (n : Nat) (H : Heap) : Gives Tryz.prog 34 [.string s] n H fun v n' H' => (∃ b, v = .bool b) ∧ n' = n ∧ H' = H := by
 refine Gives.of orders ok34 (Nat.le_of_ble_eq_true rfl) ?_
 repeat (first | refine qqm rfl ?_ | ((first | refine qqr ?_ | refine qqt ?_); simp only [SS, qx2, vun, simprocAttr, ff_34]))
 refine WK.loop (fun k s' => ∃ i, s'.n = n ∧ s'.H = H ∧ s'.f 0 = .string s ∧ s'.f 3 = .int .i64 (i : Nat) ∧ i ≤ s.size ∧ k = s.size - i) s.size ?_ ?_
 ·exact ⟨0, rfl, rfl, rfl, rfl, Nat.zero_le _, rfl⟩
 rintro k ⟨f, n', H'⟩ ⟨i, rfl, rfl, f0, f3, hi, rfl⟩ ih
 simp only at f0 f3 ih
 by_cases hi : i < s.size
 ·have ei : s[i]? = some s[i] := bget hi
  repeat (first | refine qqm rfl ?_ | ((first | refine qqr ?_ | refine qqt ?_); simp only [SS, qx2, vun, simprocAttr, f0, f3, hi, ei, ff_34]))
  refine AtCall.by (quotable_gives _ _ _) ?_
  rintro v n' H' hk ⟨rfl, rfl, rfl⟩
  cases h4 : quotable s[i].toNat
  ·simp only [SS, qx2, vun, simprocAttr, f0, f3, ff_34]
   repeat (first | refine qqm rfl ?_ | ((first | refine qqr ?_ | refine qqt ?_); simp only [SS, qx2, vun, simprocAttr, f0, f3, ff_34]))
   first | refine qqf ?_ ?_ | refine qqg ?_ ?_
   ·exact fun _ _ => rfl
   ·simp only [packed, qv, Nat.reduceEqDiff, ↓reduceIte, ff_34]
    simp
  ·simp only [SS, qx2, vun, simprocAttr, f0, f3, ff_34]
   repeat (first | refine qqm rfl ?_ | ((first | refine qqr ?_ | refine qqt ?_); simp only [SS, qx2, vun, simprocAttr, f0, f3, ff_34]))
   refine ih (s.size - (i + 1)) (by omega) _ ⟨i + 1, rfl, rfl, f0, ?_, hi, rfl⟩
   simp only [packed, qv, Nat.reduceEqDiff, ↓reduceIte, ff_34]
   unfold maxL at hs
   rw [wrap_in (by omega) (by omega)]; rfl
 ·by_cases h1 : (1 : Int) ≤ s.size
  ·repeat (first | refine qqm rfl ?_ | ((first | refine qqr ?_ | refine qqt ?_); simp only [SS, qx2, vun, simprocAttr, f0, f3, hi, h1, ff_34]))
   first | refine qqf ?_ ?_ | refine qqg ?_ ?_
   ·exact fun _ _ => rfl
   ·simp only [packed, qv, Nat.reduceEqDiff, ↓reduceIte, ff_34]
    simp
  ·repeat (first | refine qqm rfl ?_ | ((first | refine qqr ?_ | refine qqt ?_); simp only [SS, qx2, vun, simprocAttr, f0, f3, hi, h1, ff_34]))
   first | refine qqf ?_ ?_ | refine qqg ?_ ?_
   ·exact fun _ _ => rfl
   ·simp only [packed, qv, Nat.reduceEqDiff, ↓reduceIte, ff_34]
    simp
def place (l : List ByteArray) (s : ByteArray) : Nat → Int
 | i => match l with
  | [] => -1
  | a :: l => if a.toList = s.toList then i else place l s (i + 1)
theorem place_gives {p : Option Addr} {l : List ByteArray} {s : ByteArray} {n : Nat} {H : Heap} (h : RA Value.string H p l) (hl : l.length ≤ maxL) :
  Gives Tryz.prog 33 [.slice p l.length l.length, .string s] n H fun v n' H' => v = .int .i64 (place l s 0) ∧ n' = n ∧ H' = H := by
 refine Gives.of orders ok33 (Nat.le_of_ble_eq_true rfl) ?_
 repeat (first | refine qqm rfl ?_ | ((first | refine qqr ?_ | refine qqt ?_); simp only [SS, qx16, simprocAttr, ff_33]))
 refine WK.loop (fun k s' => ∃ i, s'.n = n ∧ s'.H = H ∧ s'.f 0 = .slice p l.length l.length ∧ s'.f 1 = .string s ∧ s'.f 5 = .int .i64 (i : Nat) ∧ i ≤ l.length ∧ k = l.length - i ∧ place (l.drop i) s i = place l s 0) l.length ?_ ?_
 ·exact ⟨0, rfl, rfl, rfl, rfl, rfl, Nat.zero_le _, rfl, rfl⟩
 rintro k ⟨f, n', H'⟩ ⟨i, rfl, rfl, f0, f1, f5, hi, rfl, hpl⟩ ih
 simp only at f0 f1 f5 ih h
 by_cases hi : i < l.length
 ·obtain ⟨x, k, cs, ty, own, rfl, hx, e⟩ := h.at hi
  have d : l.drop i = l[i] :: l.drop (i + 1) := List.drop_eq_getElem_cons hi
  by_cases he : (l[i].toList == s.toList) = true
  ·repeat (first | refine qqm rfl ?_ | ((first | refine qqr ?_ | refine qqt ?_); simp only [SS, qx16, simprocAttr, f0, f1, f5, hi, hx, e, he, ff_33]))
   first | refine qqf ?_ ?_ | refine qqg ?_ ?_
   ·exact fun _ _ => rfl
   ·simp only [packed, qv, Nat.reduceEqDiff, ↓reduceIte, f5, ff_33]
    rw [← hpl, d, place, if_pos (by simpa using he)]; trivial
  ·have he : (l[i].toList == s.toList) = false := by simpa using he
   repeat (first | refine qqm rfl ?_ | ((first | refine qqr ?_ | refine qqt ?_); simp only [SS, qx16, simprocAttr, f0, f1, f5, hi, hx, e, he, ff_33]))
   refine ih (l.length - (i + 1)) (by omega) _ ⟨i + 1, rfl, rfl, f0, f1, ?_, hi, rfl, ?_⟩
   ·simp only [packed, qv, Nat.reduceEqDiff, ↓reduceIte, ff_33]
    unfold maxL at hl
    rw [wrap_in (by omega) (by omega)]; rfl
   ·rw [← hpl, d]
    conv => rhs; rw [place]
    rw [if_neg (by simpa using he)]
 ·repeat (first | refine qqm rfl ?_ | ((first | refine qqr ?_ | refine qqt ?_); simp only [SS, qx16, simprocAttr, f0, f1, f5, hi, ff_33]))
  first | refine qqf ?_ ?_ | refine qqg ?_ ?_
  ·exact fun _ _ => rfl
  ·simp only [packed, qv, Nat.reduceEqDiff, ↓reduceIte, ff_33]
   rw [← hpl, List.drop_eq_nil_of_le (by omega)]
   simp [place]
end Go.Proofs.YtihjaobjhmmboaaGreatDoor
