/- A part of a proof. Its conditions: none. -/
import Derived.Test.YtihjaobjhmmboaaGreatDoorAmUMul
set_option linter.all false
namespace Go.Proofs.YtihjaobjhmmboaaGreatDoor
open Go.AM
set_option maxRecDepth 100000
def tabOK (T : ByteArray) (L : Nat → Nat) (N : Nat) : Bool := (List.range N).all fun i => match T[i]? with
 | some b => b.toNat == L i
 | none => false
theorem w3_tab {k : Fr → Nat → Heap → Prop} {f : Fr} {d : Option Nat} {n : Nat} {H : Heap} {T : ByteArray} (L : Nat → Nat) (N : Nat) (i : Nat) (hT : tabOK T L N = true) (hi : i < N) (h : w3 k f d n H (some { v := .int .u8 (L i : Nat) })) :
  w3 k f d n H (tix2 (T[i]?)) := by
 unfold tabOK at hT
 have := List.all_eq_true.1 hT i (by simpa using hi)
 split at this
 ·rename_i b hb
  rw [hb]
  have e : b.toNat = L i := by simpa using this
  show w3 k f d n H (some { v := .int .u8 (b.toNat : Nat) })
  rw [e]; exact h
 ·cases this
def lenN (x : Nat) : Nat := if x = 0 then 0 else x.log2 + 1
theorem lenN_spec (x : Nat) (h : x ≠ 0) : 2 ^ (lenN x - 1) ≤ x ∧ x < 2 ^ lenN x := by
 unfold lenN
 rw [if_neg h]
 exact ⟨Nat.log2_self_le h, Nat.lt_log2_self⟩
theorem lenN_of {x L : Nat} (h1 : 2 ^ L ≤ x) (h2 : x < 2 ^ (L + 1)) : lenN x = L + 1 := by
 have h0 : x ≠ 0 := by have := Nat.two_pow_pos L; omega
 unfold lenN
 rw [if_neg h0]
 have a : x.log2 < L + 1 := (Nat.log2_lt h0).2 h2
 have b : L ≤ x.log2 := (Nat.le_log2 h0).2 h1
 omega
theorem lenN_shift (x k : Nat) (h : 2 ^ k ≤ x) : lenN x = k + lenN (x / 2 ^ k) := by
 have hp := Nat.two_pow_pos k
 have h0 : x / 2 ^ k ≠ 0 := by have := Nat.div_pos h hp; omega
 obtain ⟨a, b⟩ := lenN_spec _ h0
 have hL : lenN (x / 2 ^ k) = (lenN (x / 2 ^ k) - 1) + 1 := by unfold lenN; rw [if_neg h0]; rfl
 generalize lenN (x / 2 ^ k) - 1 = L at *
 rw [hL] at b ⊢
 have e : lenN x = (k + L) + 1 := lenN_of
  (by rw [Nat.pow_add]; have := Nat.mul_le_mul_left (2 ^ k) a; exact Nat.le_trans this (Nat.mul_div_le x (2 ^ k)))
  (by
   have := (Nat.div_lt_iff_lt_mul hp).1 b
   rw [show k + L + 1 = (L + 1) + k by omega, Nat.pow_add]; exact this)
 omega
theorem lenN_le (x k : Nat) (h : x < 2 ^ k) : lenN x ≤ k := by
 by_cases h0 : x = 0
 ·subst h0; unfold lenN; simp
 ·have := (Nat.log2_lt h0).2 h
  unfold lenN; rw [if_neg h0]; omega
theorem wrap_u8n (x : Nat) (h : x < 256) : IntKind.u8.wrap (x : Int) = (x : Int) := by rw [wrap_u8]; omega
theorem len_gives (x : Nat) (hx : x < 18446744073709551616) (n : Nat) (H : Heap) : Gives Tryz.prog 122 [.int .u64 x] n H fun v n' H' => v = .int .i64 (lenN x : Nat) ∧ n' = n ∧ H' = H := by
 refine Gives.of orders ok122 (Nat.le_of_ble_eq_true rfl) ?_
 have a1 : ∀ y : Nat, (y : Int).fdiv (2 ^ 32) = ((y / 4294967296 : Nat) : Int) := fun y => shr_nat y 32
 have a2 : ∀ y : Nat, (y : Int).fdiv (2 ^ 16) = ((y / 65536 : Nat) : Int) := fun y => shr_nat y 16
 have a3 : ∀ y : Nat, (y : Int).fdiv (2 ^ 8) = ((y / 256 : Nat) : Int) := fun y => shr_nat y 8
 have w1 : IntKind.i64.wrap (32 + 16) = 48 := rfl
 have w2 : IntKind.i64.wrap (48 + 8) = 56 := rfl
 have w3' : IntKind.i64.wrap (32 + 8) = 40 := rfl
 have w4 : IntKind.i64.wrap (0 + 16) = 16 := rfl
 have w5 : IntKind.i64.wrap (16 + 8) = 24 := rfl
 have w6 : IntKind.i64.wrap (0 + 8) = 8 := rfl
 have ww : ∀ k y : Nat, k ≤ 56 → y < 256 → IntKind.i64.wrap ((k : Int) + (lenN y : Nat)) = ((k + lenN y : Nat) : Int) := fun k y hk hy => by
  have := lenN_le y 8 hy
  rw [wrap_in (by omega) (by omega)]; simp
 have wl : ∀ y : Nat, y < 256 → IntKind.i64.wrap ((lenN y : Nat) : Int) = ((lenN y : Nat) : Int) := fun y hy => by
  have := lenN_le y 8 hy
  exact wrap_in (by omega) (by omega)
 by_cases h0 : 4294967296 ≤ x
 ·have h0i : ((4294967296 : Int) ≤ ((x : Nat) : Int)) = True := by simp only [eq_iff_iff, iff_true]; omega
  by_cases h1 : 65536 ≤ x / 4294967296
  ·have h1i : ((65536 : Int) ≤ ((x / 4294967296 : Nat) : Int)) = True := by simp only [eq_iff_iff, iff_true]; omega
   by_cases h2 : 256 ≤ x / 4294967296 / 65536
   ·have h2i : ((256 : Int) ≤ ((x / 4294967296 / 65536 : Nat) : Int)) = True := by simp only [eq_iff_iff, iff_true]; omega
    repeat (first | apply WK.seq | apply WK.block | apply WK.skipSeq | apply WK.skipBlock | apply WK.retSeq | apply WK.retBlock | apply WK.exitSeq | apply WK.exitHere | refine WK.exitOn rfl ?_ | ((first | (refine WK.rgn ?_ ?_; kernel_rfl) | refine AtCall.now ?_); simp (config := { maxSteps := 1000000 }) only [SS, qx16, forall_const, vconv, Int.reduceEq, Int.reduceNeg, Nat.reduceGT, Nat.reduceLT, Nat.reduceLeDiff, Nat.reduceEqDiff, ↓reduceIte, reduceCtorEq, Int.reduceToNat, Int.reduceLE, Int.reduceLT, Nat.reduceAdd, Nat.reduceMul, a1, a2, a3, min32, min16, min8, w1, w2, w3', w4, w5, w6, h0i, h0, h1i, h1, h2i, h2, ff_122]) | (refine WK.condT ?_ ?_; focus (simp only [ev_tmp, ev_const, fset_apply, Nat.reduceEqDiff, ↓reduceIte, decide_true, decide_false, a1, a2, a3, min32, min16, min8, w1, w2, w3', w4, w5, w6, h0i, h0, h1i, h1, h2i, h2, ff_122]; done)) | (refine WK.condF ?_ ?_; focus (simp only [ev_tmp, ev_const, fset_apply, Nat.reduceEqDiff, ↓reduceIte, decide_true, decide_false, a1, a2, a3, min32, min16, min8, w1, w2, w3', w4, w5, w6, h0i, h0, h1i, h1, h2i, h2, ff_122]; done)))
    have hw8 := wrap_u8n (x / 4294967296 / 65536 / 256) (by omega)
    simp only [hw8, Int.toNat_natCast]
    refine w3_tab lenN 256 _ (by kernel_rfl) (by omega) ?_
    have hww := ww 56 (x / 4294967296 / 65536 / 256) (by omega) (by omega)
    have hwl := wl (x / 4294967296 / 65536 / 256) (by omega)
    simp (config := { maxSteps := 1000000 }) only [SS, qx16, forall_const, vconv, Int.reduceEq, Int.reduceNeg, Nat.reduceGT, Nat.reduceLT, Nat.reduceLeDiff, Nat.reduceEqDiff, ↓reduceIte, reduceCtorEq, Int.reduceToNat, Int.reduceLE, Int.reduceLT, Nat.reduceAdd, Nat.reduceMul, hwl, hww, ff_122]
    repeat (first | apply WK.seq | apply WK.block | apply WK.skipSeq | apply WK.skipBlock | apply WK.retSeq | apply WK.retBlock | apply WK.exitSeq | apply WK.exitHere | refine WK.exitOn rfl ?_ | ((first | (refine WK.rgn ?_ ?_; kernel_rfl) | refine AtCall.now ?_); simp (config := { maxSteps := 1000000 }) only [SS, qx16, forall_const, vconv, Int.reduceEq, Int.reduceNeg, Nat.reduceGT, Nat.reduceLT, Nat.reduceLeDiff, Nat.reduceEqDiff, ↓reduceIte, reduceCtorEq, Int.reduceToNat, Int.reduceLE, Int.reduceLT, Nat.reduceAdd, Nat.reduceMul, hwl, hww, ff_122]) | (refine WK.condT ?_ ?_; focus (simp only [ev_tmp, ev_const, fset_apply, Nat.reduceEqDiff, ↓reduceIte, decide_true, decide_false, hwl, hww, ff_122]; done)) | (refine WK.condF ?_ ?_; focus (simp only [ev_tmp, ev_const, fset_apply, Nat.reduceEqDiff, ↓reduceIte, decide_true, decide_false, hwl, hww, ff_122]; done)))
    (first | refine WK.retNil ⟨Or.inr rfl, _, rfl, ?_, ?_⟩ | refine WK.skipNil ⟨Or.inl rfl, _, rfl, ?_, ?_⟩)
    ·exact fun _ _ => rfl
    ·simp only [packed, fset_apply, Nat.reduceEqDiff, ↓reduceIte, List.getD_cons_zero, List.getD_cons_succ, ff_122]
     have hb := lenN_le (x / 4294967296 / 65536 / 256) 8 (by omega)
     have hs : lenN x = 56 + lenN (x / 4294967296 / 65536 / 256) := by
      rw [lenN_shift (x) 32 (by omega), lenN_shift ((x) / 2 ^ 32) 16 (by omega), lenN_shift (((x) / 2 ^ 32) / 2 ^ 16) 8 (by omega)] <;> simp only [Nat.reducePow] <;> omega
     rw [hs]
     first
      | (simp; rw [wrap_in (by omega) (by omega)]; done)
      | (rw [wrap_in (by omega) (by omega)]; simp; done)
      | (simp; done)
   ·have h2i : ((256 : Int) ≤ ((x / 4294967296 / 65536 : Nat) : Int)) = False := by simp only [eq_iff_iff, iff_false]; omega
    repeat (first | apply WK.seq | apply WK.block | apply WK.skipSeq | apply WK.skipBlock | apply WK.retSeq | apply WK.retBlock | apply WK.exitSeq | apply WK.exitHere | refine WK.exitOn rfl ?_ | ((first | (refine WK.rgn ?_ ?_; kernel_rfl) | refine AtCall.now ?_); simp (config := { maxSteps := 1000000 }) only [SS, qx16, forall_const, vconv, Int.reduceEq, Int.reduceNeg, Nat.reduceGT, Nat.reduceLT, Nat.reduceLeDiff, Nat.reduceEqDiff, ↓reduceIte, reduceCtorEq, Int.reduceToNat, Int.reduceLE, Int.reduceLT, Nat.reduceAdd, Nat.reduceMul, a1, a2, a3, min32, min16, min8, w1, w2, w3', w4, w5, w6, h0i, h0, h1i, h1, h2i, h2, ff_122]) | (refine WK.condT ?_ ?_; focus (simp only [ev_tmp, ev_const, fset_apply, Nat.reduceEqDiff, ↓reduceIte, decide_true, decide_false, a1, a2, a3, min32, min16, min8, w1, w2, w3', w4, w5, w6, h0i, h0, h1i, h1, h2i, h2, ff_122]; done)) | (refine WK.condF ?_ ?_; focus (simp only [ev_tmp, ev_const, fset_apply, Nat.reduceEqDiff, ↓reduceIte, decide_true, decide_false, a1, a2, a3, min32, min16, min8, w1, w2, w3', w4, w5, w6, h0i, h0, h1i, h1, h2i, h2, ff_122]; done)))
    have hw8 := wrap_u8n (x / 4294967296 / 65536) (by omega)
    simp only [hw8, Int.toNat_natCast]
    refine w3_tab lenN 256 _ (by kernel_rfl) (by omega) ?_
    have hww := ww 48 (x / 4294967296 / 65536) (by omega) (by omega)
    have hwl := wl (x / 4294967296 / 65536) (by omega)
    simp (config := { maxSteps := 1000000 }) only [SS, qx16, forall_const, vconv, Int.reduceEq, Int.reduceNeg, Nat.reduceGT, Nat.reduceLT, Nat.reduceLeDiff, Nat.reduceEqDiff, ↓reduceIte, reduceCtorEq, Int.reduceToNat, Int.reduceLE, Int.reduceLT, Nat.reduceAdd, Nat.reduceMul, hwl, hww, ff_122]
    repeat (first | apply WK.seq | apply WK.block | apply WK.skipSeq | apply WK.skipBlock | apply WK.retSeq | apply WK.retBlock | apply WK.exitSeq | apply WK.exitHere | refine WK.exitOn rfl ?_ | ((first | (refine WK.rgn ?_ ?_; kernel_rfl) | refine AtCall.now ?_); simp (config := { maxSteps := 1000000 }) only [SS, qx16, forall_const, vconv, Int.reduceEq, Int.reduceNeg, Nat.reduceGT, Nat.reduceLT, Nat.reduceLeDiff, Nat.reduceEqDiff, ↓reduceIte, reduceCtorEq, Int.reduceToNat, Int.reduceLE, Int.reduceLT, Nat.reduceAdd, Nat.reduceMul, hwl, hww, ff_122]) | (refine WK.condT ?_ ?_; focus (simp only [ev_tmp, ev_const, fset_apply, Nat.reduceEqDiff, ↓reduceIte, decide_true, decide_false, hwl, hww, ff_122]; done)) | (refine WK.condF ?_ ?_; focus (simp only [ev_tmp, ev_const, fset_apply, Nat.reduceEqDiff, ↓reduceIte, decide_true, decide_false, hwl, hww, ff_122]; done)))
    (first | refine WK.retNil ⟨Or.inr rfl, _, rfl, ?_, ?_⟩ | refine WK.skipNil ⟨Or.inl rfl, _, rfl, ?_, ?_⟩)
    ·exact fun _ _ => rfl
    ·simp only [packed, fset_apply, Nat.reduceEqDiff, ↓reduceIte, List.getD_cons_zero, List.getD_cons_succ, ff_122]
     have hb := lenN_le (x / 4294967296 / 65536) 8 (by omega)
     have hs : lenN x = 48 + lenN (x / 4294967296 / 65536) := by
      rw [lenN_shift (x) 32 (by omega), lenN_shift ((x) / 2 ^ 32) 16 (by omega)] <;> simp only [Nat.reducePow] <;> omega
     rw [hs]
     first
      | (simp; rw [wrap_in (by omega) (by omega)]; done)
      | (rw [wrap_in (by omega) (by omega)]; simp; done)
      | (simp; done)
  ·have h1i : ((65536 : Int) ≤ ((x / 4294967296 : Nat) : Int)) = False := by simp only [eq_iff_iff, iff_false]; omega
   by_cases h2 : 256 ≤ x / 4294967296
   ·have h2i : ((256 : Int) ≤ ((x / 4294967296 : Nat) : Int)) = True := by simp only [eq_iff_iff, iff_true]; omega
    repeat (first | apply WK.seq | apply WK.block | apply WK.skipSeq | apply WK.skipBlock | apply WK.retSeq | apply WK.retBlock | apply WK.exitSeq | apply WK.exitHere | refine WK.exitOn rfl ?_ | ((first | (refine WK.rgn ?_ ?_; kernel_rfl) | refine AtCall.now ?_); simp (config := { maxSteps := 1000000 }) only [SS, qx16, forall_const, vconv, Int.reduceEq, Int.reduceNeg, Nat.reduceGT, Nat.reduceLT, Nat.reduceLeDiff, Nat.reduceEqDiff, ↓reduceIte, reduceCtorEq, Int.reduceToNat, Int.reduceLE, Int.reduceLT, Nat.reduceAdd, Nat.reduceMul, a1, a2, a3, min32, min16, min8, w1, w2, w3', w4, w5, w6, h0i, h0, h1i, h1, h2i, h2, ff_122]) | (refine WK.condT ?_ ?_; focus (simp only [ev_tmp, ev_const, fset_apply, Nat.reduceEqDiff, ↓reduceIte, decide_true, decide_false, a1, a2, a3, min32, min16, min8, w1, w2, w3', w4, w5, w6, h0i, h0, h1i, h1, h2i, h2, ff_122]; done)) | (refine WK.condF ?_ ?_; focus (simp only [ev_tmp, ev_const, fset_apply, Nat.reduceEqDiff, ↓reduceIte, decide_true, decide_false, a1, a2, a3, min32, min16, min8, w1, w2, w3', w4, w5, w6, h0i, h0, h1i, h1, h2i, h2, ff_122]; done)))
    have hw8 := wrap_u8n (x / 4294967296 / 256) (by omega)
    simp only [hw8, Int.toNat_natCast]
    refine w3_tab lenN 256 _ (by kernel_rfl) (by omega) ?_
    have hww := ww 40 (x / 4294967296 / 256) (by omega) (by omega)
    have hwl := wl (x / 4294967296 / 256) (by omega)
    simp (config := { maxSteps := 1000000 }) only [SS, qx16, forall_const, vconv, Int.reduceEq, Int.reduceNeg, Nat.reduceGT, Nat.reduceLT, Nat.reduceLeDiff, Nat.reduceEqDiff, ↓reduceIte, reduceCtorEq, Int.reduceToNat, Int.reduceLE, Int.reduceLT, Nat.reduceAdd, Nat.reduceMul, hwl, hww, ff_122]
    repeat (first | apply WK.seq | apply WK.block | apply WK.skipSeq | apply WK.skipBlock | apply WK.retSeq | apply WK.retBlock | apply WK.exitSeq | apply WK.exitHere | refine WK.exitOn rfl ?_ | ((first | (refine WK.rgn ?_ ?_; kernel_rfl) | refine AtCall.now ?_); simp (config := { maxSteps := 1000000 }) only [SS, qx16, forall_const, vconv, Int.reduceEq, Int.reduceNeg, Nat.reduceGT, Nat.reduceLT, Nat.reduceLeDiff, Nat.reduceEqDiff, ↓reduceIte, reduceCtorEq, Int.reduceToNat, Int.reduceLE, Int.reduceLT, Nat.reduceAdd, Nat.reduceMul, hwl, hww, ff_122]) | (refine WK.condT ?_ ?_; focus (simp only [ev_tmp, ev_const, fset_apply, Nat.reduceEqDiff, ↓reduceIte, decide_true, decide_false, hwl, hww, ff_122]; done)) | (refine WK.condF ?_ ?_; focus (simp only [ev_tmp, ev_const, fset_apply, Nat.reduceEqDiff, ↓reduceIte, decide_true, decide_false, hwl, hww, ff_122]; done)))
    (first | refine WK.retNil ⟨Or.inr rfl, _, rfl, ?_, ?_⟩ | refine WK.skipNil ⟨Or.inl rfl, _, rfl, ?_, ?_⟩)
    ·exact fun _ _ => rfl
    ·simp only [packed, fset_apply, Nat.reduceEqDiff, ↓reduceIte, List.getD_cons_zero, List.getD_cons_succ, ff_122]
     have hb := lenN_le (x / 4294967296 / 256) 8 (by omega)
     have hs : lenN x = 40 + lenN (x / 4294967296 / 256) := by
      rw [lenN_shift (x) 32 (by omega), lenN_shift ((x) / 2 ^ 32) 8 (by omega)] <;> simp only [Nat.reducePow] <;> omega
     rw [hs]
     first
      | (simp; rw [wrap_in (by omega) (by omega)]; done)
      | (rw [wrap_in (by omega) (by omega)]; simp; done)
      | (simp; done)
   ·have h2i : ((256 : Int) ≤ ((x / 4294967296 : Nat) : Int)) = False := by simp only [eq_iff_iff, iff_false]; omega
    repeat (first | apply WK.seq | apply WK.block | apply WK.skipSeq | apply WK.skipBlock | apply WK.retSeq | apply WK.retBlock | apply WK.exitSeq | apply WK.exitHere | refine WK.exitOn rfl ?_ | ((first | (refine WK.rgn ?_ ?_; kernel_rfl) | refine AtCall.now ?_); simp (config := { maxSteps := 1000000 }) only [SS, qx16, forall_const, vconv, Int.reduceEq, Int.reduceNeg, Nat.reduceGT, Nat.reduceLT, Nat.reduceLeDiff, Nat.reduceEqDiff, ↓reduceIte, reduceCtorEq, Int.reduceToNat, Int.reduceLE, Int.reduceLT, Nat.reduceAdd, Nat.reduceMul, a1, a2, a3, min32, min16, min8, w1, w2, w3', w4, w5, w6, h0i, h0, h1i, h1, h2i, h2, ff_122]) | (refine WK.condT ?_ ?_; focus (simp only [ev_tmp, ev_const, fset_apply, Nat.reduceEqDiff, ↓reduceIte, decide_true, decide_false, a1, a2, a3, min32, min16, min8, w1, w2, w3', w4, w5, w6, h0i, h0, h1i, h1, h2i, h2, ff_122]; done)) | (refine WK.condF ?_ ?_; focus (simp only [ev_tmp, ev_const, fset_apply, Nat.reduceEqDiff, ↓reduceIte, decide_true, decide_false, a1, a2, a3, min32, min16, min8, w1, w2, w3', w4, w5, w6, h0i, h0, h1i, h1, h2i, h2, ff_122]; done)))
    have hw8 := wrap_u8n (x / 4294967296) (by omega)
    simp only [hw8, Int.toNat_natCast]
    refine w3_tab lenN 256 _ (by kernel_rfl) (by omega) ?_
    have hww := ww 32 (x / 4294967296) (by omega) (by omega)
    have hwl := wl (x / 4294967296) (by omega)
    simp (config := { maxSteps := 1000000 }) only [SS, qx16, forall_const, vconv, Int.reduceEq, Int.reduceNeg, Nat.reduceGT, Nat.reduceLT, Nat.reduceLeDiff, Nat.reduceEqDiff, ↓reduceIte, reduceCtorEq, Int.reduceToNat, Int.reduceLE, Int.reduceLT, Nat.reduceAdd, Nat.reduceMul, hwl, hww, ff_122]
    repeat (first | apply WK.seq | apply WK.block | apply WK.skipSeq | apply WK.skipBlock | apply WK.retSeq | apply WK.retBlock | apply WK.exitSeq | apply WK.exitHere | refine WK.exitOn rfl ?_ | ((first | (refine WK.rgn ?_ ?_; kernel_rfl) | refine AtCall.now ?_); simp (config := { maxSteps := 1000000 }) only [SS, qx16, forall_const, vconv, Int.reduceEq, Int.reduceNeg, Nat.reduceGT, Nat.reduceLT, Nat.reduceLeDiff, Nat.reduceEqDiff, ↓reduceIte, reduceCtorEq, Int.reduceToNat, Int.reduceLE, Int.reduceLT, Nat.reduceAdd, Nat.reduceMul, hwl, hww, ff_122]) | (refine WK.condT ?_ ?_; focus (simp only [ev_tmp, ev_const, fset_apply, Nat.reduceEqDiff, ↓reduceIte, decide_true, decide_false, hwl, hww, ff_122]; done)) | (refine WK.condF ?_ ?_; focus (simp only [ev_tmp, ev_const, fset_apply, Nat.reduceEqDiff, ↓reduceIte, decide_true, decide_false, hwl, hww, ff_122]; done)))
    (first | refine WK.retNil ⟨Or.inr rfl, _, rfl, ?_, ?_⟩ | refine WK.skipNil ⟨Or.inl rfl, _, rfl, ?_, ?_⟩)
    ·exact fun _ _ => rfl
    ·simp only [packed, fset_apply, Nat.reduceEqDiff, ↓reduceIte, List.getD_cons_zero, List.getD_cons_succ, ff_122]
     have hb := lenN_le (x / 4294967296) 8 (by omega)
     have hs : lenN x = 32 + lenN (x / 4294967296) := by
      rw [lenN_shift (x) 32 (by omega)] <;> simp only [Nat.reducePow] <;> omega
     rw [hs]
     first
      | (simp; rw [wrap_in (by omega) (by omega)]; done)
      | (rw [wrap_in (by omega) (by omega)]; simp; done)
      | (simp; done)
 ·have h0i : ((4294967296 : Int) ≤ ((x : Nat) : Int)) = False := by simp only [eq_iff_iff, iff_false]; omega
  by_cases h1 : 65536 ≤ x
  ·have h1i : ((65536 : Int) ≤ ((x : Nat) : Int)) = True := by simp only [eq_iff_iff, iff_true]; omega
   by_cases h2 : 256 ≤ x / 65536
   ·have h2i : ((256 : Int) ≤ ((x / 65536 : Nat) : Int)) = True := by simp only [eq_iff_iff, iff_true]; omega
    repeat (first | apply WK.seq | apply WK.block | apply WK.skipSeq | apply WK.skipBlock | apply WK.retSeq | apply WK.retBlock | apply WK.exitSeq | apply WK.exitHere | refine WK.exitOn rfl ?_ | ((first | (refine WK.rgn ?_ ?_; kernel_rfl) | refine AtCall.now ?_); simp (config := { maxSteps := 1000000 }) only [SS, qx16, forall_const, vconv, Int.reduceEq, Int.reduceNeg, Nat.reduceGT, Nat.reduceLT, Nat.reduceLeDiff, Nat.reduceEqDiff, ↓reduceIte, reduceCtorEq, Int.reduceToNat, Int.reduceLE, Int.reduceLT, Nat.reduceAdd, Nat.reduceMul, a1, a2, a3, min32, min16, min8, w1, w2, w3', w4, w5, w6, h0i, h0, h1i, h1, h2i, h2, ff_122]) | (refine WK.condT ?_ ?_; focus (simp only [ev_tmp, ev_const, fset_apply, Nat.reduceEqDiff, ↓reduceIte, decide_true, decide_false, a1, a2, a3, min32, min16, min8, w1, w2, w3', w4, w5, w6, h0i, h0, h1i, h1, h2i, h2, ff_122]; done)) | (refine WK.condF ?_ ?_; focus (simp only [ev_tmp, ev_const, fset_apply, Nat.reduceEqDiff, ↓reduceIte, decide_true, decide_false, a1, a2, a3, min32, min16, min8, w1, w2, w3', w4, w5, w6, h0i, h0, h1i, h1, h2i, h2, ff_122]; done)))
    have hw8 := wrap_u8n (x / 65536 / 256) (by omega)
    simp only [hw8, Int.toNat_natCast]
    refine w3_tab lenN 256 _ (by kernel_rfl) (by omega) ?_
    have hww := ww 24 (x / 65536 / 256) (by omega) (by omega)
    have hwl := wl (x / 65536 / 256) (by omega)
    simp (config := { maxSteps := 1000000 }) only [SS, qx16, forall_const, vconv, Int.reduceEq, Int.reduceNeg, Nat.reduceGT, Nat.reduceLT, Nat.reduceLeDiff, Nat.reduceEqDiff, ↓reduceIte, reduceCtorEq, Int.reduceToNat, Int.reduceLE, Int.reduceLT, Nat.reduceAdd, Nat.reduceMul, hwl, hww, ff_122]
    repeat (first | apply WK.seq | apply WK.block | apply WK.skipSeq | apply WK.skipBlock | apply WK.retSeq | apply WK.retBlock | apply WK.exitSeq | apply WK.exitHere | refine WK.exitOn rfl ?_ | ((first | (refine WK.rgn ?_ ?_; kernel_rfl) | refine AtCall.now ?_); simp (config := { maxSteps := 1000000 }) only [SS, qx16, forall_const, vconv, Int.reduceEq, Int.reduceNeg, Nat.reduceGT, Nat.reduceLT, Nat.reduceLeDiff, Nat.reduceEqDiff, ↓reduceIte, reduceCtorEq, Int.reduceToNat, Int.reduceLE, Int.reduceLT, Nat.reduceAdd, Nat.reduceMul, hwl, hww, ff_122]) | (refine WK.condT ?_ ?_; focus (simp only [ev_tmp, ev_const, fset_apply, Nat.reduceEqDiff, ↓reduceIte, decide_true, decide_false, hwl, hww, ff_122]; done)) | (refine WK.condF ?_ ?_; focus (simp only [ev_tmp, ev_const, fset_apply, Nat.reduceEqDiff, ↓reduceIte, decide_true, decide_false, hwl, hww, ff_122]; done)))
    (first | refine WK.retNil ⟨Or.inr rfl, _, rfl, ?_, ?_⟩ | refine WK.skipNil ⟨Or.inl rfl, _, rfl, ?_, ?_⟩)
    ·exact fun _ _ => rfl
    ·simp only [packed, fset_apply, Nat.reduceEqDiff, ↓reduceIte, List.getD_cons_zero, List.getD_cons_succ, ff_122]
     have hb := lenN_le (x / 65536 / 256) 8 (by omega)
     have hs : lenN x = 24 + lenN (x / 65536 / 256) := by
      rw [lenN_shift (x) 16 (by omega), lenN_shift ((x) / 2 ^ 16) 8 (by omega)] <;> simp only [Nat.reducePow] <;> omega
     rw [hs]
     first
      | (simp; rw [wrap_in (by omega) (by omega)]; done)
      | (rw [wrap_in (by omega) (by omega)]; simp; done)
      | (simp; done)
   ·have h2i : ((256 : Int) ≤ ((x / 65536 : Nat) : Int)) = False := by simp only [eq_iff_iff, iff_false]; omega
    repeat (first | apply WK.seq | apply WK.block | apply WK.skipSeq | apply WK.skipBlock | apply WK.retSeq | apply WK.retBlock | apply WK.exitSeq | apply WK.exitHere | refine WK.exitOn rfl ?_ | ((first | (refine WK.rgn ?_ ?_; kernel_rfl) | refine AtCall.now ?_); simp (config := { maxSteps := 1000000 }) only [SS, qx16, forall_const, vconv, Int.reduceEq, Int.reduceNeg, Nat.reduceGT, Nat.reduceLT, Nat.reduceLeDiff, Nat.reduceEqDiff, ↓reduceIte, reduceCtorEq, Int.reduceToNat, Int.reduceLE, Int.reduceLT, Nat.reduceAdd, Nat.reduceMul, a1, a2, a3, min32, min16, min8, w1, w2, w3', w4, w5, w6, h0i, h0, h1i, h1, h2i, h2, ff_122]) | (refine WK.condT ?_ ?_; focus (simp only [ev_tmp, ev_const, fset_apply, Nat.reduceEqDiff, ↓reduceIte, decide_true, decide_false, a1, a2, a3, min32, min16, min8, w1, w2, w3', w4, w5, w6, h0i, h0, h1i, h1, h2i, h2, ff_122]; done)) | (refine WK.condF ?_ ?_; focus (simp only [ev_tmp, ev_const, fset_apply, Nat.reduceEqDiff, ↓reduceIte, decide_true, decide_false, a1, a2, a3, min32, min16, min8, w1, w2, w3', w4, w5, w6, h0i, h0, h1i, h1, h2i, h2, ff_122]; done)))
    have hw8 := wrap_u8n (x / 65536) (by omega)
    simp only [hw8, Int.toNat_natCast]
    refine w3_tab lenN 256 _ (by kernel_rfl) (by omega) ?_
    have hww := ww 16 (x / 65536) (by omega) (by omega)
    have hwl := wl (x / 65536) (by omega)
    simp (config := { maxSteps := 1000000 }) only [SS, qx16, forall_const, vconv, Int.reduceEq, Int.reduceNeg, Nat.reduceGT, Nat.reduceLT, Nat.reduceLeDiff, Nat.reduceEqDiff, ↓reduceIte, reduceCtorEq, Int.reduceToNat, Int.reduceLE, Int.reduceLT, Nat.reduceAdd, Nat.reduceMul, hwl, hww, ff_122]
    repeat (first | apply WK.seq | apply WK.block | apply WK.skipSeq | apply WK.skipBlock | apply WK.retSeq | apply WK.retBlock | apply WK.exitSeq | apply WK.exitHere | refine WK.exitOn rfl ?_ | ((first | (refine WK.rgn ?_ ?_; kernel_rfl) | refine AtCall.now ?_); simp (config := { maxSteps := 1000000 }) only [SS, qx16, forall_const, vconv, Int.reduceEq, Int.reduceNeg, Nat.reduceGT, Nat.reduceLT, Nat.reduceLeDiff, Nat.reduceEqDiff, ↓reduceIte, reduceCtorEq, Int.reduceToNat, Int.reduceLE, Int.reduceLT, Nat.reduceAdd, Nat.reduceMul, hwl, hww, ff_122]) | (refine WK.condT ?_ ?_; focus (simp only [ev_tmp, ev_const, fset_apply, Nat.reduceEqDiff, ↓reduceIte, decide_true, decide_false, hwl, hww, ff_122]; done)) | (refine WK.condF ?_ ?_; focus (simp only [ev_tmp, ev_const, fset_apply, Nat.reduceEqDiff, ↓reduceIte, decide_true, decide_false, hwl, hww, ff_122]; done)))
    (first | refine WK.retNil ⟨Or.inr rfl, _, rfl, ?_, ?_⟩ | refine WK.skipNil ⟨Or.inl rfl, _, rfl, ?_, ?_⟩)
    ·exact fun _ _ => rfl
    ·simp only [packed, fset_apply, Nat.reduceEqDiff, ↓reduceIte, List.getD_cons_zero, List.getD_cons_succ, ff_122]
     have hb := lenN_le (x / 65536) 8 (by omega)
     have hs : lenN x = 16 + lenN (x / 65536) := by
      rw [lenN_shift (x) 16 (by omega)] <;> simp only [Nat.reducePow] <;> omega
     rw [hs]
     first
      | (simp; rw [wrap_in (by omega) (by omega)]; done)
      | (rw [wrap_in (by omega) (by omega)]; simp; done)
      | (simp; done)
  ·have h1i : ((65536 : Int) ≤ ((x : Nat) : Int)) = False := by simp only [eq_iff_iff, iff_false]; omega
   by_cases h2 : 256 ≤ x
   ·have h2i : ((256 : Int) ≤ ((x : Nat) : Int)) = True := by simp only [eq_iff_iff, iff_true]; omega
    repeat (first | apply WK.seq | apply WK.block | apply WK.skipSeq | apply WK.skipBlock | apply WK.retSeq | apply WK.retBlock | apply WK.exitSeq | apply WK.exitHere | refine WK.exitOn rfl ?_ | ((first | (refine WK.rgn ?_ ?_; kernel_rfl) | refine AtCall.now ?_); simp (config := { maxSteps := 1000000 }) only [SS, qx16, forall_const, vconv, Int.reduceEq, Int.reduceNeg, Nat.reduceGT, Nat.reduceLT, Nat.reduceLeDiff, Nat.reduceEqDiff, ↓reduceIte, reduceCtorEq, Int.reduceToNat, Int.reduceLE, Int.reduceLT, Nat.reduceAdd, Nat.reduceMul, a1, a2, a3, min32, min16, min8, w1, w2, w3', w4, w5, w6, h0i, h0, h1i, h1, h2i, h2, ff_122]) | (refine WK.condT ?_ ?_; focus (simp only [ev_tmp, ev_const, fset_apply, Nat.reduceEqDiff, ↓reduceIte, decide_true, decide_false, a1, a2, a3, min32, min16, min8, w1, w2, w3', w4, w5, w6, h0i, h0, h1i, h1, h2i, h2, ff_122]; done)) | (refine WK.condF ?_ ?_; focus (simp only [ev_tmp, ev_const, fset_apply, Nat.reduceEqDiff, ↓reduceIte, decide_true, decide_false, a1, a2, a3, min32, min16, min8, w1, w2, w3', w4, w5, w6, h0i, h0, h1i, h1, h2i, h2, ff_122]; done)))
    have hw8 := wrap_u8n (x / 256) (by omega)
    simp only [hw8, Int.toNat_natCast]
    refine w3_tab lenN 256 _ (by kernel_rfl) (by omega) ?_
    have hww := ww 8 (x / 256) (by omega) (by omega)
    have hwl := wl (x / 256) (by omega)
    simp (config := { maxSteps := 1000000 }) only [SS, qx16, forall_const, vconv, Int.reduceEq, Int.reduceNeg, Nat.reduceGT, Nat.reduceLT, Nat.reduceLeDiff, Nat.reduceEqDiff, ↓reduceIte, reduceCtorEq, Int.reduceToNat, Int.reduceLE, Int.reduceLT, Nat.reduceAdd, Nat.reduceMul, hwl, hww, ff_122]
    repeat (first | apply WK.seq | apply WK.block | apply WK.skipSeq | apply WK.skipBlock | apply WK.retSeq | apply WK.retBlock | apply WK.exitSeq | apply WK.exitHere | refine WK.exitOn rfl ?_ | ((first | (refine WK.rgn ?_ ?_; kernel_rfl) | refine AtCall.now ?_); simp (config := { maxSteps := 1000000 }) only [SS, qx16, forall_const, vconv, Int.reduceEq, Int.reduceNeg, Nat.reduceGT, Nat.reduceLT, Nat.reduceLeDiff, Nat.reduceEqDiff, ↓reduceIte, reduceCtorEq, Int.reduceToNat, Int.reduceLE, Int.reduceLT, Nat.reduceAdd, Nat.reduceMul, hwl, hww, ff_122]) | (refine WK.condT ?_ ?_; focus (simp only [ev_tmp, ev_const, fset_apply, Nat.reduceEqDiff, ↓reduceIte, decide_true, decide_false, hwl, hww, ff_122]; done)) | (refine WK.condF ?_ ?_; focus (simp only [ev_tmp, ev_const, fset_apply, Nat.reduceEqDiff, ↓reduceIte, decide_true, decide_false, hwl, hww, ff_122]; done)))
    (first | refine WK.retNil ⟨Or.inr rfl, _, rfl, ?_, ?_⟩ | refine WK.skipNil ⟨Or.inl rfl, _, rfl, ?_, ?_⟩)
    ·exact fun _ _ => rfl
    ·simp only [packed, fset_apply, Nat.reduceEqDiff, ↓reduceIte, List.getD_cons_zero, List.getD_cons_succ, ff_122]
     have hb := lenN_le (x / 256) 8 (by omega)
     have hs : lenN x = 8 + lenN (x / 256) := by
      rw [lenN_shift (x) 8 (by omega)] <;> simp only [Nat.reducePow] <;> omega
     rw [hs]
     first
      | (simp; rw [wrap_in (by omega) (by omega)]; done)
      | (rw [wrap_in (by omega) (by omega)]; simp; done)
      | (simp; done)
   ·have h2i : ((256 : Int) ≤ ((x : Nat) : Int)) = False := by simp only [eq_iff_iff, iff_false]; omega
    repeat (first | apply WK.seq | apply WK.block | apply WK.skipSeq | apply WK.skipBlock | apply WK.retSeq | apply WK.retBlock | apply WK.exitSeq | apply WK.exitHere | refine WK.exitOn rfl ?_ | ((first | (refine WK.rgn ?_ ?_; kernel_rfl) | refine AtCall.now ?_); simp (config := { maxSteps := 1000000 }) only [SS, qx16, forall_const, vconv, Int.reduceEq, Int.reduceNeg, Nat.reduceGT, Nat.reduceLT, Nat.reduceLeDiff, Nat.reduceEqDiff, ↓reduceIte, reduceCtorEq, Int.reduceToNat, Int.reduceLE, Int.reduceLT, Nat.reduceAdd, Nat.reduceMul, a1, a2, a3, min32, min16, min8, w1, w2, w3', w4, w5, w6, h0i, h0, h1i, h1, h2i, h2, ff_122]) | (refine WK.condT ?_ ?_; focus (simp only [ev_tmp, ev_const, fset_apply, Nat.reduceEqDiff, ↓reduceIte, decide_true, decide_false, a1, a2, a3, min32, min16, min8, w1, w2, w3', w4, w5, w6, h0i, h0, h1i, h1, h2i, h2, ff_122]; done)) | (refine WK.condF ?_ ?_; focus (simp only [ev_tmp, ev_const, fset_apply, Nat.reduceEqDiff, ↓reduceIte, decide_true, decide_false, a1, a2, a3, min32, min16, min8, w1, w2, w3', w4, w5, w6, h0i, h0, h1i, h1, h2i, h2, ff_122]; done)))
    have hw8 := wrap_u8n (x) (by omega)
    simp only [hw8, Int.toNat_natCast]
    refine w3_tab lenN 256 _ (by kernel_rfl) (by omega) ?_
    have hww := ww 0 (x) (by omega) (by omega)
    have hwl := wl (x) (by omega)
    simp (config := { maxSteps := 1000000 }) only [SS, qx16, forall_const, vconv, Int.reduceEq, Int.reduceNeg, Nat.reduceGT, Nat.reduceLT, Nat.reduceLeDiff, Nat.reduceEqDiff, ↓reduceIte, reduceCtorEq, Int.reduceToNat, Int.reduceLE, Int.reduceLT, Nat.reduceAdd, Nat.reduceMul, hwl, hww, ff_122]
    repeat (first | apply WK.seq | apply WK.block | apply WK.skipSeq | apply WK.skipBlock | apply WK.retSeq | apply WK.retBlock | apply WK.exitSeq | apply WK.exitHere | refine WK.exitOn rfl ?_ | ((first | (refine WK.rgn ?_ ?_; kernel_rfl) | refine AtCall.now ?_); simp (config := { maxSteps := 1000000 }) only [SS, qx16, forall_const, vconv, Int.reduceEq, Int.reduceNeg, Nat.reduceGT, Nat.reduceLT, Nat.reduceLeDiff, Nat.reduceEqDiff, ↓reduceIte, reduceCtorEq, Int.reduceToNat, Int.reduceLE, Int.reduceLT, Nat.reduceAdd, Nat.reduceMul, hwl, hww, ff_122]) | (refine WK.condT ?_ ?_; focus (simp only [ev_tmp, ev_const, fset_apply, Nat.reduceEqDiff, ↓reduceIte, decide_true, decide_false, hwl, hww, ff_122]; done)) | (refine WK.condF ?_ ?_; focus (simp only [ev_tmp, ev_const, fset_apply, Nat.reduceEqDiff, ↓reduceIte, decide_true, decide_false, hwl, hww, ff_122]; done)))
    (first | refine WK.retNil ⟨Or.inr rfl, _, rfl, ?_, ?_⟩ | refine WK.skipNil ⟨Or.inl rfl, _, rfl, ?_, ?_⟩)
    ·exact fun _ _ => rfl
    ·simp only [packed, fset_apply, Nat.reduceEqDiff, ↓reduceIte, List.getD_cons_zero, List.getD_cons_succ, ff_122]
     have hb := lenN_le (x) 8 (by omega)
     have hs : lenN x = 0 + lenN (x) := by
      omega
     rw [hs]
     first
      | (simp; rw [wrap_in (by omega) (by omega)]; done)
      | (rw [wrap_in (by omega) (by omega)]; simp; done)
      | (simp; done)
end Go.Proofs.YtihjaobjhmmboaaGreatDoor
