/- A part of a proof. Its conditions: none. -/
import Derived.Test.YtihjaobjhmmboaaGreatDoorAmUStrF
import Derived.Test.YtihjaobjhmmboaaGreatDoorAmUMul
set_option linter.all false
namespace Go.Proofs.YtihjaobjhmmboaaGreatDoor
open Go.AM
set_option maxRecDepth 100000
theorem WK.cutRetBlock {P : Program} {id : Nat} {c : Code} {K : List Fk} {s : St} {Q : AExit → St → Prop} (R : St → Prop) (h1 : WK P c [.block id] s fun e s1 => e = .normal ∧ R s1 ∨ e = .ret ∧ Q .ret s1) (h2 : ∀ s1, R s1 → WK P .skip K s1 Q) : WK P c (.block id :: K) s Q :=
 ⟨(WK.cutRet (c := .block id c) R (WK.block h1) h2).run⟩
def isD (b : UInt8) : Bool := decide (48 ≤ b.toNat) && decide (b.toNat ≤ 57)
def digsB (l : List UInt8) (lo hi : Int) : Bool := l.all isD && (decide (lo ≤ (l.length : Int)) && decide ((l.length : Int) ≤ hi))
set_option maxHeartbeats 2000000 in
theorem digs_gives (l : List UInt8) (lo hi : Int) (hl : l.length ≤ 1000) (n : Nat) (H : Heap) : Gives Tryz.prog 92 [.string (BA l), .int .i64 lo, .int .i64 hi] n H fun v n' H' => v = .bool (digsB l lo hi) ∧ n' = n ∧ H' = H := by
 refine Gives.of orders ok92 (Nat.le_of_ble_eq_true rfl) ?_
 repeat (first | refine qqm rfl ?_ | ((first | refine qqr ?_ | refine qqt ?_); simp only [SS, qx2, simprocAttr, BAS, ba_size, ba_list, ust, ff_92]))
 refine WK.cutRetBlock (fun s => l.all isD = true ∧ s.n = n ∧ s.H = H ∧ s.f 0 = .string (BA l) ∧ s.f 1 = .int .i64 lo ∧ s.f 2 = .int .i64 hi) ?_ ?_
 ·refine WK.loop (fun kk s => ∃ i : Nat, i ≤ l.length ∧ (∀ j, j < i → ∀ b, l[j]? = some b → isD b = true) ∧ s.n = n ∧ s.H = H ∧ s.f 0 = .string (BA l) ∧ s.f 1 = .int .i64 lo ∧ s.f 2 = .int .i64 hi ∧ s.f 9 = .int .i64 (l.length : Int) ∧ s.f 10 = .int .i64 (i : Int) ∧ kk = l.length - i + 1) (l.length + 1) ?_ ?_
  ·exact ⟨0, Nat.zero_le _, fun j hj => absurd hj (Nat.not_lt_zero _), rfl, rfl, rfl, rfl, rfl, rfl, rfl, rfl⟩
  rintro kk ⟨f, n1, H1⟩ ⟨i, hi1, hd, rfl, rfl, f0, f1, f2, f9, f10, rfl⟩ ih
  simp only at f0 f1 f2 f9 f10 ih
  by_cases hil : i < l.length
  ·have hil' : ((i : Int) < (l.length : Int)) = True := by simp only [eq_iff_iff, iff_true]; omega
   have hg : l[i]? = some l[i] := List.getElem?_eq_getElem hil
   have hw1 : IntKind.i64.wrap ((i : Int) + 1) = ((i + 1 : Nat) : Int) := by rw [wrap_in (by omega) (by omega)]; simp
   have h0 : (0 : Int) ≤ (i : Int) := by omega
   generalize l[i] = b at hg
   by_cases hb : isD b = true
   ·have hb2 : 48 ≤ b.toNat ∧ b.toNat ≤ 57 := by unfold isD at hb; simpa using hb
    have c1 : ((b.toNat : Int) < 48) = False := by simp only [eq_iff_iff, iff_false]; omega
    have c2 : ((57 : Int) < (b.toNat : Int)) = False := by simp only [eq_iff_iff, iff_false]; omega
    repeat (first | refine qqm rfl ?_ | ((first | refine qqr ?_ | refine qqt ?_); simp only [SS, qx2, simprocAttr, f0, f1, f2, f9, f10, hil', hil, ba_get, hg, c1, c2, ust, h0, Int.toNat_natCast, ff_92]))
    refine ih (l.length - (i + 1) + 1) (by omega) _ ⟨i + 1, hil, ?_, rfl, rfl, f0, f1, f2, f9, ?_, rfl⟩
    ·intro j hj b' hb'
     by_cases e : j = i
     ·subst e; rw [hg] at hb'; cases hb'; exact hb
     ·exact hd j (by omega) b' hb'
    ·simp only [packed, qv, Nat.reduceEqDiff, ↓reduceIte, f10, hw1, ff_92]
   ·have hb2 : ¬ (48 ≤ b.toNat ∧ b.toNat ≤ 57) := by unfold isD at hb; simpa using hb
    have hall : l.all isD = false := by
     rw [Bool.eq_false_iff]
     intro h
     exact hb (List.all_eq_true.1 h b (List.mem_of_getElem? hg))
    have fin : digsB l lo hi = false := by unfold digsB; rw [hall]; rfl
    by_cases c : b.toNat < 48
    ·have c1 : ((b.toNat : Int) < 48) = True := by simp only [eq_iff_iff, iff_true]; omega
     repeat (first | refine qqm rfl ?_ | ((first | refine qqr ?_ | refine qqt ?_); simp only [SS, qx2, simprocAttr, f0, f1, f2, f9, f10, hil', hil, ba_get, hg, c1, ust, h0, Int.toNat_natCast, ff_92]))
     refine WK.retNil (.inr ⟨rfl, Or.inr rfl, _, rfl, fun _ _ => rfl, ?_⟩)
     simp only [packed, qv, Nat.reduceEqDiff, ↓reduceIte, fin, ff_92]
     exact ⟨trivial, trivial, trivial⟩
    ·have c1 : ((b.toNat : Int) < 48) = False := by simp only [eq_iff_iff, iff_false]; omega
     have c2 : ((57 : Int) < (b.toNat : Int)) = True := by simp only [eq_iff_iff, iff_true]; omega
     repeat (first | refine qqm rfl ?_ | ((first | refine qqr ?_ | refine qqt ?_); simp only [SS, qx2, simprocAttr, f0, f1, f2, f9, f10, hil', hil, ba_get, hg, c1, c2, ust, h0, Int.toNat_natCast, ff_92]))
     refine WK.retNil (.inr ⟨rfl, Or.inr rfl, _, rfl, fun _ _ => rfl, ?_⟩)
     simp only [packed, qv, Nat.reduceEqDiff, ↓reduceIte, fin, ff_92]
     exact ⟨trivial, trivial, trivial⟩
  ·have hil' : ((i : Int) < (l.length : Int)) = False := by simp only [eq_iff_iff, iff_false]; omega
   repeat (first | refine qqm rfl ?_ | ((first | refine qqr ?_ | refine qqt ?_); simp only [SS, qx2, simprocAttr, f0, f1, f2, f9, f10, hil', hil, ff_92]))
   refine WK.skipNil (.inl ⟨rfl, ?_, rfl, rfl, f0, f1, f2⟩)
   rw [List.all_eq_true]
   intro b hb
   obtain ⟨j, hj, e⟩ := List.getElem_of_mem hb
   exact hd j (by omega) b (by rw [← e]; exact List.getElem?_eq_getElem hj)
 rintro ⟨f, n1, H1⟩ ⟨hall, rfl, rfl, f0, f1, f2⟩
 simp only at f0 f1 f2
 by_cases c : lo ≤ (l.length : Int)
 ·repeat (first | refine qqm rfl ?_ | ((first | refine qqr ?_ | refine qqt ?_); simp only [SS, qx2, simprocAttr, f0, f1, f2, ba_size, c, ust, ff_92]))
  first | refine qqf ?_ ?_ | refine qqg ?_ ?_
  ·exact fun _ _ => rfl
  ·simp only [packed, qv, Nat.reduceEqDiff, ↓reduceIte, digsB, hall, c, ff_92]
   simp
 ·repeat (first | refine qqm rfl ?_ | ((first | refine qqr ?_ | refine qqt ?_); simp only [SS, qx2, simprocAttr, f0, f1, f2, ba_size, c, ust, ff_92]))
  first | refine qqf ?_ ?_ | refine qqg ?_ ?_
  ·exact fun _ _ => rfl
  ·simp only [packed, qv, Nat.reduceEqDiff, ↓reduceIte, digsB, hall, c, ff_92]
   simp
theorem near_nat (v : Nat) : FloatKind.f64.nearest (v : Int) = Ieee.Format.nearest Ieee.double false v 0 := by
 simp [FloatKind.nearest]
 have : decide ((v : Int) < 0) = false := by simp
 rw [this]; rfl
def valL (l : List UInt8) : Nat := l.foldl (fun a b => 10 * a + (b.toNat - 48)) 0
theorem valL_snoc (l : List UInt8) (b : UInt8) : valL (l ++ [b]) = 10 * valL l + (b.toNat - 48) := by unfold valL; rw [List.foldl_append]; rfl
theorem valL_lt (l : List UInt8) (h : l.all isD = true) : valL l < 10 ^ l.length := by
 have key : ∀ (l : List UInt8) (a : Nat), l.all isD = true → l.foldl (fun a b => 10 * a + (b.toNat - 48)) a < (a + 1) * 10 ^ l.length := by
  intro l
  induction l with
  | nil => intro a _; simp
  | cons b l ih =>
   intro a hl
   simp only [List.all_cons, Bool.and_eq_true] at hl
   have hb : 48 ≤ b.toNat ∧ b.toNat ≤ 57 := by have := hl.1; unfold isD at this; simpa using this
   have := ih (10 * a + (b.toNat - 48)) hl.2
   simp only [List.foldl_cons, List.length_cons, Nat.pow_succ]
   refine Nat.lt_of_lt_of_le this ?_
   rw [Nat.mul_comm (10 ^ l.length) 10, ← Nat.mul_assoc]
   exact Nat.mul_le_mul_right _ (by omega)
 have := key l 0 h
 simpa [valL] using this
set_option maxHeartbeats 2000000 in
theorem whole_gives (l : List UInt8) (hl : l.length ≤ 15) (hd : l.all isD = true) (n : Nat) (H : Heap) : Gives Tryz.prog 93 [.string (BA l)] n H fun v n' H' => v = .float .f64 (Ieee.Format.nearest Ieee.double false (valL l) 0) ∧ n' = n ∧ H' = H := by
 refine Gives.of orders ok93 (Nat.le_of_ble_eq_true rfl) ?_
 repeat (first | refine qqm rfl ?_ | ((first | refine qqr ?_ | refine qqt ?_); simp only [SS, qx44, vconv, simprocAttr, BAS, ba_size, ba_list, ust, ff_93]))
 refine WK.cutBlock (fun s => s.n = n ∧ s.H = H ∧ s.f 3 = .int .i64 (valL l : Int)) ?_ ?_
 ·refine WK.loop (fun kk s => ∃ i : Nat, i ≤ l.length ∧ s.n = n ∧ s.H = H ∧ s.f 0 = .string (BA l) ∧ s.f 3 = .int .i64 (valL (l.take i) : Int) ∧ s.f 6 = .int .i64 (l.length : Int) ∧ s.f 7 = .int .i64 (i : Int) ∧ kk = l.length - i + 1) (l.length + 1) ?_ ?_
  ·exact ⟨0, Nat.zero_le _, rfl, rfl, rfl, rfl, rfl, rfl, rfl⟩
  rintro kk ⟨f, n1, H1⟩ ⟨i, hi1, rfl, rfl, f0, f3, f6, f7, rfl⟩ ih
  simp only at f0 f3 f6 f7 ih
  by_cases hil : i < l.length
  ·have hil' : ((i : Int) < (l.length : Int)) = True := by simp only [eq_iff_iff, iff_true]; omega
   have hg : l[i]? = some l[i] := List.getElem?_eq_getElem hil
   have hw1 : IntKind.i64.wrap ((i : Int) + 1) = ((i + 1 : Nat) : Int) := by rw [wrap_in (by omega) (by omega)]; simp
   have h0 : (0 : Int) ≤ (i : Int) := by omega
   have hb : isD l[i] = true := List.all_eq_true.1 hd _ (List.getElem_mem hil)
   have hv : valL (l.take (i + 1)) = 10 * valL (l.take i) + (l[i].toNat - 48) := by rw [List.take_succ_eq_append_getElem hil, valL_snoc]
   have hlt := valL_lt (l.take i) (by rw [List.all_eq_true]; intro x hx; exact List.all_eq_true.1 hd x (List.mem_of_mem_take hx))
   have hp : 10 ^ (l.take i).length ≤ 10 ^ 15 := Nat.pow_le_pow_right (by omega) (by rw [List.length_take]; omega)
   generalize l[i] = b at hg hb hv
   have hb2 : 48 ≤ b.toNat ∧ b.toNat ≤ 57 := by unfold isD at hb; simpa using hb
   generalize hV : valL (l.take i) = V at *
   have w1 : IntKind.i64.wrap (10 * (V : Int)) = ((10 * V : Nat) : Int) := by rw [wrap_in (by omega) (by omega)]; simp
   have w2 : IntKind.u8.wrap ((b.toNat : Int) - 48) = ((b.toNat - 48 : Nat) : Int) := by rw [wrap_u8]; omega
   have w3 : IntKind.i64.wrap ((b.toNat - 48 : Nat) : Int) = ((b.toNat - 48 : Nat) : Int) := wrap_i64n _ (by omega)
   have w4 : IntKind.i64.wrap (((10 * V : Nat) : Int) + ((b.toNat - 48 : Nat) : Int)) = ((10 * V + (b.toNat - 48) : Nat) : Int) := by rw [wrap_in (by omega) (by omega)]; simp
   repeat (first | refine qqm rfl ?_ | ((first | refine qqr ?_ | refine qqt ?_); simp only [SS, qx44, vconv, simprocAttr, f0, f3, f6, f7, hil', hil, ba_get, hg, ust, h0, Int.toNat_natCast, w1, w2, w3, w4, ff_93]))
   refine ih (l.length - (i + 1) + 1) (by omega) _ ⟨i + 1, hil, rfl, rfl, f0, ?_, f6, ?_, rfl⟩
   ·simp only [packed, qv, Nat.reduceEqDiff, ↓reduceIte, w1, w2, w3, w4, ff_93]
    rw [hv]
   ·simp only [packed, qv, Nat.reduceEqDiff, ↓reduceIte, f7, hw1, ff_93]
  ·have hil' : ((i : Int) < (l.length : Int)) = False := by simp only [eq_iff_iff, iff_false]; omega
   have hie : i = l.length := by omega
   subst hie
   rw [List.take_length] at f3
   repeat (first | refine qqm rfl ?_ | ((first | refine qqr ?_ | refine qqt ?_); simp only [SS, qx44, vconv, simprocAttr, f0, f3, f6, f7, hil', hil, ff_93]))
   refine WK.skipNil ⟨rfl, rfl, rfl, f3⟩
 rintro ⟨f, n1, H1⟩ ⟨rfl, rfl, f3⟩
 simp only at f3
 repeat (first | refine qqm rfl ?_ | ((first | refine qqr ?_ | refine qqt ?_); simp only [SS, qx44, vconv, simprocAttr, f3, ff_93]))
 first | refine qqf ?_ ?_ | refine qqg ?_ ?_
 ·exact fun _ _ => rfl
 ·simp only [packed, qv, Nat.reduceEqDiff, ↓reduceIte, near_nat, ff_93]
  exact ⟨trivial, trivial, trivial⟩
def zs (k : Nat) : List UInt8 := List.replicate k 48
def z64 : List UInt8 := [48, 48, 48, 48, 48, 48, 48, 48, 48, 48, 48, 48, 48, 48, 48, 48, 48, 48, 48, 48, 48, 48, 48, 48, 48, 48, 48, 48, 48, 48, 48, 48, 48, 48, 48, 48, 48, 48, 48, 48, 48, 48, 48, 48, 48, 48, 48, 48, 48, 48, 48, 48, 48, 48, 48, 48, 48, 48, 48, 48, 48, 48, 48, 48]
theorem ba64 : (⟨#[48, 48, 48, 48, 48, 48, 48, 48, 48, 48, 48, 48, 48, 48, 48, 48, 48, 48, 48, 48, 48, 48, 48, 48, 48, 48, 48, 48, 48, 48, 48, 48, 48, 48, 48, 48, 48, 48, 48, 48, 48, 48, 48, 48, 48, 48, 48, 48, 48, 48, 48, 48, 48, 48, 48, 48, 48, 48, 48, 48, 48, 48, 48, 48]⟩ : ByteArray) = BA z64 := rfl
theorem z64_take (k : Nat) (hk : k ≤ 6) : (z64.take k).drop 0 = zs k := by
 match k, hk with
 | 0, _ => rfl
 | 1, _ => rfl
 | 2, _ => rfl
 | 3, _ => rfl
 | 4, _ => rfl
 | 5, _ => rfl
 | 6, _ => rfl
 | n + 7, h => omega
theorem mul_gives (x y : Nat) (hx : x < 18446744073709551616) (hy : y < 18446744073709551616) (n : Nat) (H : Heap) :
  Gives Tryz.prog 105 [.int .u64 x, .int .u64 y] n H fun v n' H' => v = .tuple #[.int .u64 ((x * y / 18446744073709551616 : Nat) : Int), .int .u64 ((x * y % 18446744073709551616 : Nat) : Int)] ∧ n' = n ∧ H' = H := by
 refine Gives.of orders ok105 (Nat.le_of_ble_eq_true rfl) ?_
 repeat (first | refine qqm rfl ?_ | ((first | refine qqr ?_ | refine qqt ?_); simp only [SS, qg0, tor, vconv, textr, simprocAttr, ff_105]))
 refine AtCall.by (mul64_gives x y hx hy _ _) ?_
 rintro v n' H' hk ⟨rfl, rfl, rfl⟩
 simp only [SS, qg0, tor, vconv, textr, simprocAttr, ff_105]
 repeat (first | refine qqm rfl ?_ | ((first | refine qqr ?_ | refine qqt ?_); simp only [SS, qg0, tor, vconv, textr, simprocAttr, ff_105]))
 first | refine qqf ?_ ?_ | refine qqg ?_ ?_
 ·exact fun _ _ => rfl
 ·simp only [packed, qv, Nat.reduceEqDiff, ↓reduceIte, ff_105]
  exact ⟨trivial, trivial, trivial⟩
theorem hasprefd_b (c : UInt8) (l : List UInt8) (b : Bool) (hb : (l.head? == some c) = b) (n : Nat) (H : Heap) : Gives Tryz.prog 106 [.string (BA l), .string (BA [c])] n H fun v n' H' => v = .bool b ∧ n' = n ∧ H' = H := by
 rw [← hb]; exact hasprefd_gives c l n H
set_option maxHeartbeats 2000000 in
theorem rep_gives (k : Nat) (hk : k ≤ 6) (n : Nat) (H : Heap) : Gives Tryz.prog 94 [.string (BA [48]), .int .i64 (k : Int)] n H fun v n' H' => v = .string (BA (zs k)) ∧ n' = n ∧ H' = H := by
 refine Gives.of orders ok94 (Nat.le_of_ble_eq_true rfl) ?_
 by_cases h0 : k = 0
 ·subst h0
  have c0 : ((0 : Nat) : Int) = 0 := rfl
  repeat (first | refine qqm rfl ?_ | ((first | refine qqr ?_ | refine qqt ?_); simp only [SS, qx25, vconv, simprocAttr, BAS, c0, ff_94]))
  first | refine qqf ?_ ?_ | refine qqg ?_ ?_
  ·exact fun _ _ => rfl
  ·simp only [packed, qv, Nat.reduceEqDiff, ↓reduceIte, ff_94]
   exact ⟨rfl, trivial, trivial⟩
 by_cases h1 : k = 1
 ·subst h1
  have z1 : ((1 : Int) = 0) = False := by simp
  repeat (first | refine qqm rfl ?_ | ((first | refine qqr ?_ | refine qqt ?_); simp only [SS, qx25, vconv, simprocAttr, BAS, c1n, z1, ff_94]))
  first | refine qqf ?_ ?_ | refine qqg ?_ ?_
  ·exact fun _ _ => rfl
  ·simp only [packed, qv, Nat.reduceEqDiff, ↓reduceIte, ff_94]
   exact ⟨rfl, trivial, trivial⟩
 have z0 : ((k : Int) = 0) = False := by simp only [eq_iff_iff, iff_false]; omega
 have z1 : ((k : Int) = 1) = False := by simp only [eq_iff_iff, iff_false]; omega
 have z2 : ((k : Int) < 0) = False := by simp only [eq_iff_iff, iff_false]; omega
 have w1 : IntKind.u64.wrap 1 = 1 := rfl
 have w2 : IntKind.u64.wrap (k : Int) = (k : Int) := by rw [wrap_u64]; omega
 repeat (first | refine qqm rfl ?_ | ((first | refine qqr ?_ | refine qqt ?_); simp only [SS, qx25, vconv, simprocAttr, BAS, ba_size, c1n, z0, z1, z2, w1, w2, ust, ff_94]))
 refine AtCall.by (mul_gives 1 k (by omega) (by omega) _ _) ?_
 rintro v n' H' hk' ⟨rfl, rfl, rfl⟩
 rw [show 1 * k / 18446744073709551616 = 0 by omega, show 1 * k % 18446744073709551616 = k by omega]
 have z3 : ((0 : Int) < ((0 : Nat) : Int)) = False := by simp
 have z4 : ((9223372036854775807 : Int) < (k : Int)) = False := by simp only [eq_iff_iff, iff_false]; omega
 have w3 : IntKind.i64.wrap (k : Int) = (k : Int) := wrap_i64n _ (by omega)
 have z5 : ((k : Int) ≤ 64) = True := by simp only [eq_iff_iff, iff_true]; omega
 have t48 : ((UInt8.toNat 48 : Nat) : Int) = 48 := rfl
 simp only [SS, qx25, vconv, simprocAttr, ff_94]
 have z6 : ((k : Int) ≤ 128) = True := by simp only [eq_iff_iff, iff_true]; omega
 repeat (first | refine qqm rfl ?_ | ((first | refine qqr ?_ | refine qqt ?_); simp only [SS, qx25, vconv, simprocAttr, BAS, ba_def, ba_size, ba_get, c1n, z3, z4, z5, z6, w3, ust, t48, ff_94]))
 refine AtCall.by (hasprefd_b 48 _ false (by rfl) _ _) ?_
 rintro v n' H' hk' ⟨rfl, rfl, rfl⟩
 simp only [SS, qx25, vconv, simprocAttr, z5, z6, ff_94]
 repeat (first | refine qqm rfl ?_ | ((first | refine qqr ?_ | refine qqt ?_); simp only [SS, qx25, vconv, simprocAttr, BAS, ba_def, z5, z6, ff_94]))
 refine AtCall.by (hasprefd_b 48 _ false (by rfl) _ _) ?_
 rintro v n' H' hk' ⟨rfl, rfl, rfl⟩
 simp only [SS, qx25, vconv, simprocAttr, z5, z6, ff_94]
 repeat (first | refine qqm rfl ?_ | ((first | refine qqr ?_ | refine qqt ?_); simp only [SS, qx25, vconv, simprocAttr, BAS, ba_def, z5, z6, ff_94]))
 refine AtCall.by (hasprefd_b 48 _ true (by rfl) _ _) ?_
 rintro v n' H' hk' ⟨rfl, rfl, rfl⟩
 have hk64 : k ≤ 64 := by omega
 have hz : z64.length = 64 := rfl
 have ht := z64_take k hk
 simp only [SS, qx25, vconv, simprocAttr, z5, z6, ff_94]
 repeat (first | refine qqm rfl ?_ | ((first | refine qqr ?_ | refine qqt ?_); simp only [SS, qx25, vconv, simprocAttr, BAS, ba64, ba_size, ba_ext, aop_ssl, tss, tss2, sbnd, ust, hz, hk64, ht, Nat.zero_le, Int.natCast_nonneg, ff_94]))
 first | refine qqf ?_ ?_ | refine qqg ?_ ?_
 ·exact fun _ _ => rfl
 ·simp only [packed, qv, Nat.reduceEqDiff, ↓reduceIte, ff_94]
  exact ⟨by rw [← ht]; rfl, trivial, trivial⟩
end Go.Proofs.YtihjaobjhmmboaaGreatDoor
