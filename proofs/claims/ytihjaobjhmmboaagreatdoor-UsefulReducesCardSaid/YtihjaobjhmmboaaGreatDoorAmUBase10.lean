/- A part of a proof. Its conditions: none. -/
import Derived.Test.YtihjaobjhmmboaaGreatDoorAmUDigits
set_option linter.all false
namespace Go.Proofs.YtihjaobjhmmboaaGreatDoor
open Go.AM
set_option maxRecDepth 100000
def Ld (i : Nat) : Nat := 48 + (if i % 2 = 0 then i / 2 / 10 else i / 2 % 10)
theorem Ld_odd (c : Nat) : Ld (c * 2 + 1) = 48 + c % 10 := by
 unfold Ld; rw [if_neg (by omega)]; congr 2; omega
theorem Ld_even (c : Nat) : Ld (c * 2) = 48 + c / 10 := by
 unfold Ld; rw [if_pos (by omega)]; congr 2; omega
def Dg (d L k : Nat) (cs0 cs : List Value) (i : Nat) : Prop :=
 cs.length = cs0.length ∧ ∀ q, cs[q]? = if k + i ≤ q ∧ q < k + L then some (.int .u8 ((48 + d / 10 ^ (k + L - 1 - q) % 10 : Nat) : Int)) else cs0[q]?
theorem Dg.put {d L k : Nat} {cs0 cs : List Value} {i v : Nat} (h : Dg d L k cs0 cs i) (h1 : 1 ≤ i) (hi : i ≤ L) (hk : k + L ≤ cs0.length) (hv : v = 48 + d / 10 ^ (L - i) % 10) :
  Dg d L k cs0 (cs.set (k + (i - 1)) (.int .u8 (v : Int))) (i - 1) := by
 refine ⟨by rw [List.length_set]; exact h.1, fun q => ?_⟩
 rw [List.getElem?_set, h.2 q, h.1]
 by_cases e : k + (i - 1) = q
 ·rw [if_pos e, if_pos (by omega), if_pos (by omega), hv]
  rw [show k + L - 1 - q = L - i by omega]
 ·rw [if_neg e]
  by_cases e2 : k + i ≤ q ∧ q < k + L
  ·rw [if_pos e2, if_pos (by omega)]
  ·rw [if_neg e2, if_neg (by omega)]
theorem div_step (d L i t : Nat) (h : t ≤ i) (hi : i ≤ L) : d / 10 ^ (L - (i - t)) = d / 10 ^ (L - i) / 10 ^ t := by
 rw [Nat.div_div_eq_div_mul, ← Nat.pow_add]; congr 2; omega
theorem tm (a b : Nat) : (a : Int).tmod (b : Int) = ((a % b : Nat) : Int) := rfl
theorem td32 (a b : Nat) (h : a < 4294967296) : IntKind.u32.wrap ((a : Int).tdiv (b : Int)) = ((a / b : Nat) : Int) := by
 rw [show (a : Int).tdiv (b : Int) = ((a / b : Nat) : Int) from rfl, wrap_u32]
 have := Nat.div_le_self a b
 generalize a / b = c at *
 omega
theorem td64 (a b : Nat) (h : a < 18446744073709551616) : IntKind.u64.wrap ((a : Int).tdiv (b : Int)) = ((a / b : Nat) : Int) := by
 rw [show (a : Int).tdiv (b : Int) = ((a / b : Nat) : Int) from rfl, wrap_u64]
 have := Nat.div_le_self a b
 generalize a / b = c at *
 omega
theorem wu32 (a : Nat) (h : a < 4294967296) : IntKind.u32.wrap (a : Int) = (a : Int) := by rw [wrap_u32]; omega
theorem x2 (a : Nat) (h : a < 2147483648) : IntKind.u32.wrap ((a : Int) * 2) = ((a * 2 : Nat) : Int) := by rw [wrap_u32]; omega
theorem p1 (a : Nat) (h : a < 4294967295) : IntKind.u32.wrap ((a : Int) + 1) = ((a + 1 : Nat) : Int) := by rw [wrap_u32]; omega
set_option maxHeartbeats 8000000 in
theorem base10_gives {x k L d : Nat} {cs0 : List Value} {ty : TypeId} {n : Nat} {H : Heap} (hx : H x = .cells cs0 ty true) (hk : k + L ≤ cs0.length) (hL : L ≤ 1000) (hd : d < 18446744073709551616) (hdL : d < 10 ^ L) :
  GivesX Tryz.prog (fun z => z = x) 148 [.slice (some ⟨x, k, some 0⟩) L L, .int .u64 d] n H fun _ n' H' => n' = n ∧ ∃ cs, H' x = .cells cs ty true ∧ Dg d L k cs0 cs 0 := by
 refine GivesX.of orders ok148 (Nat.le_of_ble_eq_true rfl) ?_
 repeat (first | apply WK.seq | apply WK.block | apply WK.skipSeq | apply WK.skipBlock | apply WK.retSeq | apply WK.retBlock | apply WK.exitSeq | apply WK.exitHere | refine WK.exitOn rfl ?_ | ((first | (refine WK.rgn ?_ ?_; kernel_rfl) | refine AtCall.now ?_); simp (config := { maxSteps := 1000000 }) only [SS, qx11, forall_const, vconv, Int.reduceEq, Int.reduceNeg, Nat.reduceGT, Nat.reduceLT, Nat.reduceLeDiff, Nat.reduceEqDiff, ↓reduceIte, reduceCtorEq, Int.reduceToNat, Int.reduceLE, Int.reduceLT, Nat.reduceAdd, Nat.reduceMul, ff_148]) | (refine WK.condT ?_ ?_; focus (simp only [ev_tmp, ev_const, fset_apply, Nat.reduceEqDiff, ↓reduceIte, decide_true, decide_false, ff_148]; done)) | (refine WK.condF ?_ ?_; focus (simp only [ev_tmp, ev_const, fset_apply, Nat.reduceEqDiff, ↓reduceIte, decide_true, decide_false, ff_148]; done)))
 refine WK.loop (fun kk s => ∃ (i u : Nat) (cs : List Value), s.n = n ∧ s.H x = .cells cs ty true ∧ (∀ z, z ≠ x → s.H z = H z) ∧ s.f 0 = .slice (some ⟨x, k, some 0⟩) L L ∧ s.f 1 = .int .u64 (u : Int) ∧ s.f 4 = .int .i64 (i : Int) ∧ Dg d L k cs0 cs i ∧ u = d / 10 ^ (L - i) ∧ i ≤ L ∧ kk = i + 1) (L + 1) ?_ ?_
 ·exact ⟨L, d, cs0, rfl, hx, fun _ _ => rfl, rfl, rfl, rfl, ⟨rfl, fun q => by rw [if_neg (by omega)]⟩, by simp, Nat.le_refl _, rfl⟩
 rintro kk ⟨f, n', H'⟩ ⟨i, u, cs, rfl, hx', hoth, f0, f1, f4, hg, hu, hi, rfl⟩ ih
 simp only at hx' hoth f0 f1 f4 ih
 have hlen : k + L ≤ cs.length := by rw [hg.1]; exact hk
 have hub : u < 18446744073709551616 := by rw [hu]; exact Nat.lt_of_le_of_lt (Nat.div_le_self _ _) hd
 by_cases h8 : 8 ≤ i
 ·have h8' : ((8 : Int) ≤ (i : Int)) = True := by simp only [eq_iff_iff, iff_true]; omega
  obtain ⟨A, hA⟩ : ∃ A, u % 100000000 = A := ⟨_, rfl⟩
  have e1 : (u : Int).tmod 100000000 = (A : Int) := by rw [← hA]; exact tm u 100000000
  have e2 : IntKind.u32.wrap (A : Int) = (A : Int) := wu32 A (by omega)
  have e3 : IntKind.u64.wrap ((u : Int).tdiv 100000000) = ((u / 100000000 : Nat) : Int) := td64 u 100000000 hub
  obtain ⟨B, hB⟩ : ∃ z, A / 10000 = z := ⟨_, rfl⟩
  obtain ⟨C, hC⟩ : ∃ z, A % 10000 = z := ⟨_, rfl⟩
  have gq : IntKind.u32.wrap ((A : Int).tdiv 10000) = (B : Int) := by rw [← hB]; exact td32 A 10000 (by omega)
  have gr : (A : Int).tmod 10000 = (C : Int) := by rw [← hC]; exact tm A 10000
  obtain ⟨C1, hC1⟩ : ∃ z, C / 100 = z := ⟨_, rfl⟩
  obtain ⟨C0, hC0⟩ : ∃ z, C % 100 = z := ⟨_, rfl⟩
  have cq : IntKind.u32.wrap ((C : Int).tdiv 100) = (C1 : Int) := by rw [← hC1]; exact td32 C 100 (by omega)
  have cr : (C : Int).tmod 100 = (C0 : Int) := by rw [← hC0]; exact tm C 100
  have ca2 : IntKind.u32.wrap ((C1 : Int) * 2) = ((C1 * 2 : Nat) : Int) := x2 C1 (by omega)
  have ca3 : IntKind.u32.wrap (((C1 * 2 : Nat) : Int) + 1) = ((C1 * 2 + 1 : Nat) : Int) := p1 _ (by omega)
  have cb2 : IntKind.u32.wrap ((C0 : Int) * 2) = ((C0 * 2 : Nat) : Int) := x2 C0 (by omega)
  have cb3 : IntKind.u32.wrap (((C0 * 2 : Nat) : Int) + 1) = ((C0 * 2 + 1 : Nat) : Int) := p1 _ (by omega)
  obtain ⟨B1, hB1⟩ : ∃ z, B / 100 = z := ⟨_, rfl⟩
  obtain ⟨B0, hB0⟩ : ∃ z, B % 100 = z := ⟨_, rfl⟩
  have bq : IntKind.u32.wrap ((B : Int).tdiv 100) = (B1 : Int) := by rw [← hB1]; exact td32 B 100 (by omega)
  have br : (B : Int).tmod 100 = (B0 : Int) := by rw [← hB0]; exact tm B 100
  have ba2 : IntKind.u32.wrap ((B1 : Int) * 2) = ((B1 * 2 : Nat) : Int) := x2 B1 (by omega)
  have ba3 : IntKind.u32.wrap (((B1 * 2 : Nat) : Int) + 1) = ((B1 * 2 + 1 : Nat) : Int) := p1 _ (by omega)
  have bb2 : IntKind.u32.wrap ((B0 : Int) * 2) = ((B0 * 2 : Nat) : Int) := x2 B0 (by omega)
  have bb3 : IntKind.u32.wrap (((B0 * 2 : Nat) : Int) + 1) = ((B0 * 2 + 1 : Nat) : Int) := p1 _ (by omega)
  have j1 : IntKind.i64.wrap ((i : Int) - 1) = ((i - 1 : Nat) : Int) := by rw [wrap_in (by omega) (by omega)]; omega
  have k1 : (0 : Int) ≤ ((i - 1 : Nat) : Int) ∧ ((i - 1 : Nat) : Int) < ((L : Nat) : Int) := by omega
  have l1 : k + (i - 1) + 1 ≤ cs.length := by omega
  have j2 : IntKind.i64.wrap ((i : Int) - 2) = ((i - 2 : Nat) : Int) := by rw [wrap_in (by omega) (by omega)]; omega
  have k2 : (0 : Int) ≤ ((i - 2 : Nat) : Int) ∧ ((i - 2 : Nat) : Int) < ((L : Nat) : Int) := by omega
  have l2 : k + (i - 2) + 1 ≤ cs.length := by omega
  have j3 : IntKind.i64.wrap ((i : Int) - 3) = ((i - 3 : Nat) : Int) := by rw [wrap_in (by omega) (by omega)]; omega
  have k3 : (0 : Int) ≤ ((i - 3 : Nat) : Int) ∧ ((i - 3 : Nat) : Int) < ((L : Nat) : Int) := by omega
  have l3 : k + (i - 3) + 1 ≤ cs.length := by omega
  have j4 : IntKind.i64.wrap ((i : Int) - 4) = ((i - 4 : Nat) : Int) := by rw [wrap_in (by omega) (by omega)]; omega
  have k4 : (0 : Int) ≤ ((i - 4 : Nat) : Int) ∧ ((i - 4 : Nat) : Int) < ((L : Nat) : Int) := by omega
  have l4 : k + (i - 4) + 1 ≤ cs.length := by omega
  have j5 : IntKind.i64.wrap ((i : Int) - 5) = ((i - 5 : Nat) : Int) := by rw [wrap_in (by omega) (by omega)]; omega
  have k5 : (0 : Int) ≤ ((i - 5 : Nat) : Int) ∧ ((i - 5 : Nat) : Int) < ((L : Nat) : Int) := by omega
  have l5 : k + (i - 5) + 1 ≤ cs.length := by omega
  have j6 : IntKind.i64.wrap ((i : Int) - 6) = ((i - 6 : Nat) : Int) := by rw [wrap_in (by omega) (by omega)]; omega
  have k6 : (0 : Int) ≤ ((i - 6 : Nat) : Int) ∧ ((i - 6 : Nat) : Int) < ((L : Nat) : Int) := by omega
  have l6 : k + (i - 6) + 1 ≤ cs.length := by omega
  have j7 : IntKind.i64.wrap ((i : Int) - 7) = ((i - 7 : Nat) : Int) := by rw [wrap_in (by omega) (by omega)]; omega
  have k7 : (0 : Int) ≤ ((i - 7 : Nat) : Int) ∧ ((i - 7 : Nat) : Int) < ((L : Nat) : Int) := by omega
  have l7 : k + (i - 7) + 1 ≤ cs.length := by omega
  have j8 : IntKind.i64.wrap ((i : Int) - 8) = ((i - 8 : Nat) : Int) := by rw [wrap_in (by omega) (by omega)]; omega
  have k8 : (0 : Int) ≤ ((i - 8 : Nat) : Int) ∧ ((i - 8 : Nat) : Int) < ((L : Nat) : Int) := by omega
  have l8 : k + (i - 8) + 1 ≤ cs.length := by omega
  repeat (first | apply WK.seq | apply WK.block | apply WK.skipSeq | apply WK.skipBlock | apply WK.retSeq | apply WK.retBlock | apply WK.exitSeq | apply WK.exitHere | refine WK.exitOn rfl ?_ | ((first | (refine WK.rgn ?_ ?_; kernel_rfl) | refine AtCall.now ?_); simp (config := { maxSteps := 1000000 }) only [SS, qx11, forall_const, vconv, Int.reduceEq, Int.reduceNeg, Nat.reduceGT, Nat.reduceLT, Nat.reduceLeDiff, Nat.reduceEqDiff, ↓reduceIte, reduceCtorEq, Int.reduceToNat, Int.reduceLE, Int.reduceLT, Nat.reduceAdd, Nat.reduceMul, f0, f1, f4, h8', h8, e1, e2, e3, gq, gr, cq, cr, ca2, ca3, cb2, cb3, bq, br, ba2, ba3, bb2, bb3, j1, k1, l1, j2, k2, l2, j3, k3, l3, j4, k4, l4, j5, k5, l5, j6, k6, l6, j7, k7, l7, j8, k8, l8, hx', hset_at, List.length_set, Int.toNat_natCast, List.length_cons, List.length_nil, ff_148]) | (refine WK.condT ?_ ?_; focus (simp only [ev_tmp, ev_const, fset_apply, Nat.reduceEqDiff, ↓reduceIte, decide_true, decide_false, f0, f1, f4, h8', h8, e1, e2, e3, gq, gr, cq, cr, ca2, ca3, cb2, cb3, bq, br, ba2, ba3, bb2, bb3, j1, k1, l1, j2, k2, l2, j3, k3, l3, j4, k4, l4, j5, k5, l5, j6, k6, l6, j7, k7, l7, j8, k8, l8, hx', hset_at, List.length_set, Int.toNat_natCast, List.length_cons, List.length_nil, ff_148]; done)) | (refine WK.condF ?_ ?_; focus (simp only [ev_tmp, ev_const, fset_apply, Nat.reduceEqDiff, ↓reduceIte, decide_true, decide_false, f0, f1, f4, h8', h8, e1, e2, e3, gq, gr, cq, cr, ca2, ca3, cb2, cb3, bq, br, ba2, ba3, bb2, bb3, j1, k1, l1, j2, k2, l2, j3, k3, l3, j4, k4, l4, j5, k5, l5, j6, k6, l6, j7, k7, l7, j8, k8, l8, hx', hset_at, List.length_set, Int.toNat_natCast, List.length_cons, List.length_nil, ff_148]; done)))
  refine w3_tab Ld 200 (C0 * 2 + 1) (by kernel_rfl) (by omega) ?_
  simp (config := { maxSteps := 1000000 }) only [SS, qx11, forall_const, vconv, Int.reduceEq, Int.reduceNeg, Nat.reduceGT, Nat.reduceLT, Nat.reduceLeDiff, Nat.reduceEqDiff, ↓reduceIte, reduceCtorEq, Int.reduceToNat, Int.reduceLE, Int.reduceLT, Nat.reduceAdd, Nat.reduceMul, f0, f1, f4, e1, e2, e3, gq, gr, cq, cr, ca2, ca3, cb2, cb3, bq, br, ba2, ba3, bb2, bb3, j1, k1, l1, j2, k2, l2, j3, k3, l3, j4, k4, l4, j5, k5, l5, j6, k6, l6, j7, k7, l7, j8, k8, l8, hx', hset_at, List.length_set, Int.toNat_natCast, List.length_cons, List.length_nil, ff_148]
  refine w3_tab Ld 200 (C0 * 2) (by kernel_rfl) (by omega) ?_
  simp (config := { maxSteps := 1000000 }) only [SS, qx11, forall_const, vconv, Int.reduceEq, Int.reduceNeg, Nat.reduceGT, Nat.reduceLT, Nat.reduceLeDiff, Nat.reduceEqDiff, ↓reduceIte, reduceCtorEq, Int.reduceToNat, Int.reduceLE, Int.reduceLT, Nat.reduceAdd, Nat.reduceMul, f0, f1, f4, e1, e2, e3, gq, gr, cq, cr, ca2, ca3, cb2, cb3, bq, br, ba2, ba3, bb2, bb3, j1, k1, l1, j2, k2, l2, j3, k3, l3, j4, k4, l4, j5, k5, l5, j6, k6, l6, j7, k7, l7, j8, k8, l8, hx', hset_at, List.length_set, Int.toNat_natCast, List.length_cons, List.length_nil, ff_148]
  repeat (first | apply WK.seq | apply WK.block | apply WK.skipSeq | apply WK.skipBlock | apply WK.retSeq | apply WK.retBlock | apply WK.exitSeq | apply WK.exitHere | refine WK.exitOn rfl ?_ | ((first | (refine WK.rgn ?_ ?_; kernel_rfl) | refine AtCall.now ?_); simp (config := { maxSteps := 1000000 }) only [SS, qx11, forall_const, vconv, Int.reduceEq, Int.reduceNeg, Nat.reduceGT, Nat.reduceLT, Nat.reduceLeDiff, Nat.reduceEqDiff, ↓reduceIte, reduceCtorEq, Int.reduceToNat, Int.reduceLE, Int.reduceLT, Nat.reduceAdd, Nat.reduceMul, f0, f1, f4, e1, e2, e3, gq, gr, cq, cr, ca2, ca3, cb2, cb3, bq, br, ba2, ba3, bb2, bb3, j1, k1, l1, j2, k2, l2, j3, k3, l3, j4, k4, l4, j5, k5, l5, j6, k6, l6, j7, k7, l7, j8, k8, l8, hx', hset_at, List.length_set, Int.toNat_natCast, List.length_cons, List.length_nil, ff_148]) | (refine WK.condT ?_ ?_; focus (simp only [ev_tmp, ev_const, fset_apply, Nat.reduceEqDiff, ↓reduceIte, decide_true, decide_false, f0, f1, f4, e1, e2, e3, gq, gr, cq, cr, ca2, ca3, cb2, cb3, bq, br, ba2, ba3, bb2, bb3, j1, k1, l1, j2, k2, l2, j3, k3, l3, j4, k4, l4, j5, k5, l5, j6, k6, l6, j7, k7, l7, j8, k8, l8, hx', hset_at, List.length_set, Int.toNat_natCast, List.length_cons, List.length_nil, ff_148]; done)) | (refine WK.condF ?_ ?_; focus (simp only [ev_tmp, ev_const, fset_apply, Nat.reduceEqDiff, ↓reduceIte, decide_true, decide_false, f0, f1, f4, e1, e2, e3, gq, gr, cq, cr, ca2, ca3, cb2, cb3, bq, br, ba2, ba3, bb2, bb3, j1, k1, l1, j2, k2, l2, j3, k3, l3, j4, k4, l4, j5, k5, l5, j6, k6, l6, j7, k7, l7, j8, k8, l8, hx', hset_at, List.length_set, Int.toNat_natCast, List.length_cons, List.length_nil, ff_148]; done)))
  refine w3_tab Ld 200 (C1 * 2 + 1) (by kernel_rfl) (by omega) ?_
  simp (config := { maxSteps := 1000000 }) only [SS, qx11, forall_const, vconv, Int.reduceEq, Int.reduceNeg, Nat.reduceGT, Nat.reduceLT, Nat.reduceLeDiff, Nat.reduceEqDiff, ↓reduceIte, reduceCtorEq, Int.reduceToNat, Int.reduceLE, Int.reduceLT, Nat.reduceAdd, Nat.reduceMul, f0, f1, f4, e1, e2, e3, gq, gr, cq, cr, ca2, ca3, cb2, cb3, bq, br, ba2, ba3, bb2, bb3, j1, k1, l1, j2, k2, l2, j3, k3, l3, j4, k4, l4, j5, k5, l5, j6, k6, l6, j7, k7, l7, j8, k8, l8, hx', hset_at, List.length_set, Int.toNat_natCast, List.length_cons, List.length_nil, ff_148]
  refine w3_tab Ld 200 (C1 * 2) (by kernel_rfl) (by omega) ?_
  simp (config := { maxSteps := 1000000 }) only [SS, qx11, forall_const, vconv, Int.reduceEq, Int.reduceNeg, Nat.reduceGT, Nat.reduceLT, Nat.reduceLeDiff, Nat.reduceEqDiff, ↓reduceIte, reduceCtorEq, Int.reduceToNat, Int.reduceLE, Int.reduceLT, Nat.reduceAdd, Nat.reduceMul, f0, f1, f4, e1, e2, e3, gq, gr, cq, cr, ca2, ca3, cb2, cb3, bq, br, ba2, ba3, bb2, bb3, j1, k1, l1, j2, k2, l2, j3, k3, l3, j4, k4, l4, j5, k5, l5, j6, k6, l6, j7, k7, l7, j8, k8, l8, hx', hset_at, List.length_set, Int.toNat_natCast, List.length_cons, List.length_nil, ff_148]
  repeat (first | apply WK.seq | apply WK.block | apply WK.skipSeq | apply WK.skipBlock | apply WK.retSeq | apply WK.retBlock | apply WK.exitSeq | apply WK.exitHere | refine WK.exitOn rfl ?_ | ((first | (refine WK.rgn ?_ ?_; kernel_rfl) | refine AtCall.now ?_); simp (config := { maxSteps := 1000000 }) only [SS, qx11, forall_const, vconv, Int.reduceEq, Int.reduceNeg, Nat.reduceGT, Nat.reduceLT, Nat.reduceLeDiff, Nat.reduceEqDiff, ↓reduceIte, reduceCtorEq, Int.reduceToNat, Int.reduceLE, Int.reduceLT, Nat.reduceAdd, Nat.reduceMul, f0, f1, f4, e1, e2, e3, gq, gr, cq, cr, ca2, ca3, cb2, cb3, bq, br, ba2, ba3, bb2, bb3, j1, k1, l1, j2, k2, l2, j3, k3, l3, j4, k4, l4, j5, k5, l5, j6, k6, l6, j7, k7, l7, j8, k8, l8, hx', hset_at, List.length_set, Int.toNat_natCast, List.length_cons, List.length_nil, ff_148]) | (refine WK.condT ?_ ?_; focus (simp only [ev_tmp, ev_const, fset_apply, Nat.reduceEqDiff, ↓reduceIte, decide_true, decide_false, f0, f1, f4, e1, e2, e3, gq, gr, cq, cr, ca2, ca3, cb2, cb3, bq, br, ba2, ba3, bb2, bb3, j1, k1, l1, j2, k2, l2, j3, k3, l3, j4, k4, l4, j5, k5, l5, j6, k6, l6, j7, k7, l7, j8, k8, l8, hx', hset_at, List.length_set, Int.toNat_natCast, List.length_cons, List.length_nil, ff_148]; done)) | (refine WK.condF ?_ ?_; focus (simp only [ev_tmp, ev_const, fset_apply, Nat.reduceEqDiff, ↓reduceIte, decide_true, decide_false, f0, f1, f4, e1, e2, e3, gq, gr, cq, cr, ca2, ca3, cb2, cb3, bq, br, ba2, ba3, bb2, bb3, j1, k1, l1, j2, k2, l2, j3, k3, l3, j4, k4, l4, j5, k5, l5, j6, k6, l6, j7, k7, l7, j8, k8, l8, hx', hset_at, List.length_set, Int.toNat_natCast, List.length_cons, List.length_nil, ff_148]; done)))
  refine w3_tab Ld 200 (B0 * 2 + 1) (by kernel_rfl) (by omega) ?_
  simp (config := { maxSteps := 1000000 }) only [SS, qx11, forall_const, vconv, Int.reduceEq, Int.reduceNeg, Nat.reduceGT, Nat.reduceLT, Nat.reduceLeDiff, Nat.reduceEqDiff, ↓reduceIte, reduceCtorEq, Int.reduceToNat, Int.reduceLE, Int.reduceLT, Nat.reduceAdd, Nat.reduceMul, f0, f1, f4, e1, e2, e3, gq, gr, cq, cr, ca2, ca3, cb2, cb3, bq, br, ba2, ba3, bb2, bb3, j1, k1, l1, j2, k2, l2, j3, k3, l3, j4, k4, l4, j5, k5, l5, j6, k6, l6, j7, k7, l7, j8, k8, l8, hx', hset_at, List.length_set, Int.toNat_natCast, List.length_cons, List.length_nil, ff_148]
  refine w3_tab Ld 200 (B0 * 2) (by kernel_rfl) (by omega) ?_
  simp (config := { maxSteps := 1000000 }) only [SS, qx11, forall_const, vconv, Int.reduceEq, Int.reduceNeg, Nat.reduceGT, Nat.reduceLT, Nat.reduceLeDiff, Nat.reduceEqDiff, ↓reduceIte, reduceCtorEq, Int.reduceToNat, Int.reduceLE, Int.reduceLT, Nat.reduceAdd, Nat.reduceMul, f0, f1, f4, e1, e2, e3, gq, gr, cq, cr, ca2, ca3, cb2, cb3, bq, br, ba2, ba3, bb2, bb3, j1, k1, l1, j2, k2, l2, j3, k3, l3, j4, k4, l4, j5, k5, l5, j6, k6, l6, j7, k7, l7, j8, k8, l8, hx', hset_at, List.length_set, Int.toNat_natCast, List.length_cons, List.length_nil, ff_148]
  repeat (first | apply WK.seq | apply WK.block | apply WK.skipSeq | apply WK.skipBlock | apply WK.retSeq | apply WK.retBlock | apply WK.exitSeq | apply WK.exitHere | refine WK.exitOn rfl ?_ | ((first | (refine WK.rgn ?_ ?_; kernel_rfl) | refine AtCall.now ?_); simp (config := { maxSteps := 1000000 }) only [SS, qx11, forall_const, vconv, Int.reduceEq, Int.reduceNeg, Nat.reduceGT, Nat.reduceLT, Nat.reduceLeDiff, Nat.reduceEqDiff, ↓reduceIte, reduceCtorEq, Int.reduceToNat, Int.reduceLE, Int.reduceLT, Nat.reduceAdd, Nat.reduceMul, f0, f1, f4, e1, e2, e3, gq, gr, cq, cr, ca2, ca3, cb2, cb3, bq, br, ba2, ba3, bb2, bb3, j1, k1, l1, j2, k2, l2, j3, k3, l3, j4, k4, l4, j5, k5, l5, j6, k6, l6, j7, k7, l7, j8, k8, l8, hx', hset_at, List.length_set, Int.toNat_natCast, List.length_cons, List.length_nil, ff_148]) | (refine WK.condT ?_ ?_; focus (simp only [ev_tmp, ev_const, fset_apply, Nat.reduceEqDiff, ↓reduceIte, decide_true, decide_false, f0, f1, f4, e1, e2, e3, gq, gr, cq, cr, ca2, ca3, cb2, cb3, bq, br, ba2, ba3, bb2, bb3, j1, k1, l1, j2, k2, l2, j3, k3, l3, j4, k4, l4, j5, k5, l5, j6, k6, l6, j7, k7, l7, j8, k8, l8, hx', hset_at, List.length_set, Int.toNat_natCast, List.length_cons, List.length_nil, ff_148]; done)) | (refine WK.condF ?_ ?_; focus (simp only [ev_tmp, ev_const, fset_apply, Nat.reduceEqDiff, ↓reduceIte, decide_true, decide_false, f0, f1, f4, e1, e2, e3, gq, gr, cq, cr, ca2, ca3, cb2, cb3, bq, br, ba2, ba3, bb2, bb3, j1, k1, l1, j2, k2, l2, j3, k3, l3, j4, k4, l4, j5, k5, l5, j6, k6, l6, j7, k7, l7, j8, k8, l8, hx', hset_at, List.length_set, Int.toNat_natCast, List.length_cons, List.length_nil, ff_148]; done)))
  refine w3_tab Ld 200 (B1 * 2 + 1) (by kernel_rfl) (by omega) ?_
  simp (config := { maxSteps := 1000000 }) only [SS, qx11, forall_const, vconv, Int.reduceEq, Int.reduceNeg, Nat.reduceGT, Nat.reduceLT, Nat.reduceLeDiff, Nat.reduceEqDiff, ↓reduceIte, reduceCtorEq, Int.reduceToNat, Int.reduceLE, Int.reduceLT, Nat.reduceAdd, Nat.reduceMul, f0, f1, f4, e1, e2, e3, gq, gr, cq, cr, ca2, ca3, cb2, cb3, bq, br, ba2, ba3, bb2, bb3, j1, k1, l1, j2, k2, l2, j3, k3, l3, j4, k4, l4, j5, k5, l5, j6, k6, l6, j7, k7, l7, j8, k8, l8, hx', hset_at, List.length_set, Int.toNat_natCast, List.length_cons, List.length_nil, ff_148]
  refine w3_tab Ld 200 (B1 * 2) (by kernel_rfl) (by omega) ?_
  simp (config := { maxSteps := 1000000 }) only [SS, qx11, forall_const, vconv, Int.reduceEq, Int.reduceNeg, Nat.reduceGT, Nat.reduceLT, Nat.reduceLeDiff, Nat.reduceEqDiff, ↓reduceIte, reduceCtorEq, Int.reduceToNat, Int.reduceLE, Int.reduceLT, Nat.reduceAdd, Nat.reduceMul, f0, f1, f4, e1, e2, e3, gq, gr, cq, cr, ca2, ca3, cb2, cb3, bq, br, ba2, ba3, bb2, bb3, j1, k1, l1, j2, k2, l2, j3, k3, l3, j4, k4, l4, j5, k5, l5, j6, k6, l6, j7, k7, l7, j8, k8, l8, hx', hset_at, List.length_set, Int.toNat_natCast, List.length_cons, List.length_nil, ff_148]
  repeat (first | apply WK.seq | apply WK.block | apply WK.skipSeq | apply WK.skipBlock | apply WK.retSeq | apply WK.retBlock | apply WK.exitSeq | apply WK.exitHere | refine WK.exitOn rfl ?_ | ((first | (refine WK.rgn ?_ ?_; kernel_rfl) | refine AtCall.now ?_); simp (config := { maxSteps := 1000000 }) only [SS, qx11, forall_const, vconv, Int.reduceEq, Int.reduceNeg, Nat.reduceGT, Nat.reduceLT, Nat.reduceLeDiff, Nat.reduceEqDiff, ↓reduceIte, reduceCtorEq, Int.reduceToNat, Int.reduceLE, Int.reduceLT, Nat.reduceAdd, Nat.reduceMul, f0, f1, f4, e1, e2, e3, gq, gr, cq, cr, ca2, ca3, cb2, cb3, bq, br, ba2, ba3, bb2, bb3, j1, k1, l1, j2, k2, l2, j3, k3, l3, j4, k4, l4, j5, k5, l5, j6, k6, l6, j7, k7, l7, j8, k8, l8, hx', hset_at, List.length_set, Int.toNat_natCast, List.length_cons, List.length_nil, ff_148]) | (refine WK.condT ?_ ?_; focus (simp only [ev_tmp, ev_const, fset_apply, Nat.reduceEqDiff, ↓reduceIte, decide_true, decide_false, f0, f1, f4, e1, e2, e3, gq, gr, cq, cr, ca2, ca3, cb2, cb3, bq, br, ba2, ba3, bb2, bb3, j1, k1, l1, j2, k2, l2, j3, k3, l3, j4, k4, l4, j5, k5, l5, j6, k6, l6, j7, k7, l7, j8, k8, l8, hx', hset_at, List.length_set, Int.toNat_natCast, List.length_cons, List.length_nil, ff_148]; done)) | (refine WK.condF ?_ ?_; focus (simp only [ev_tmp, ev_const, fset_apply, Nat.reduceEqDiff, ↓reduceIte, decide_true, decide_false, f0, f1, f4, e1, e2, e3, gq, gr, cq, cr, ca2, ca3, cb2, cb3, bq, br, ba2, ba3, bb2, bb3, j1, k1, l1, j2, k2, l2, j3, k3, l3, j4, k4, l4, j5, k5, l5, j6, k6, l6, j7, k7, l7, j8, k8, l8, hx', hset_at, List.length_set, Int.toNat_natCast, List.length_cons, List.length_nil, ff_148]; done)))
  have v0 : Ld (C0 * 2 + 1) = 48 + d / 10 ^ (L - (i - 0)) % 10 := by rw [div_step d L i 0 (by omega) hi, ← hu, Ld_odd]; simp only [Nat.reducePow]; omega
  have v1 : Ld (C0 * 2) = 48 + d / 10 ^ (L - (i - 1)) % 10 := by rw [div_step d L i 1 (by omega) hi, ← hu, Ld_even]; simp only [Nat.reducePow]; omega
  have v2 : Ld (C1 * 2 + 1) = 48 + d / 10 ^ (L - (i - 2)) % 10 := by rw [div_step d L i 2 (by omega) hi, ← hu, Ld_odd]; simp only [Nat.reducePow]; omega
  have v3 : Ld (C1 * 2) = 48 + d / 10 ^ (L - (i - 3)) % 10 := by rw [div_step d L i 3 (by omega) hi, ← hu, Ld_even]; simp only [Nat.reducePow]; omega
  have v4 : Ld (B0 * 2 + 1) = 48 + d / 10 ^ (L - (i - 4)) % 10 := by rw [div_step d L i 4 (by omega) hi, ← hu, Ld_odd]; simp only [Nat.reducePow]; omega
  have v5 : Ld (B0 * 2) = 48 + d / 10 ^ (L - (i - 5)) % 10 := by rw [div_step d L i 5 (by omega) hi, ← hu, Ld_even]; simp only [Nat.reducePow]; omega
  have v6 : Ld (B1 * 2 + 1) = 48 + d / 10 ^ (L - (i - 6)) % 10 := by rw [div_step d L i 6 (by omega) hi, ← hu, Ld_odd]; simp only [Nat.reducePow]; omega
  have v7 : Ld (B1 * 2) = 48 + d / 10 ^ (L - (i - 7)) % 10 := by rw [div_step d L i 7 (by omega) hi, ← hu, Ld_even]; simp only [Nat.reducePow]; omega
  have g1 := (hg).put (by omega) (by omega) hk v0
  have g2 := (g1).put (by omega) (by omega) hk v1
  have g3 := (g2).put (by omega) (by omega) hk v2
  have g4 := (g3).put (by omega) (by omega) hk v3
  have g5 := (g4).put (by omega) (by omega) hk v4
  have g6 := (g5).put (by omega) (by omega) hk v5
  have g7 := (g6).put (by omega) (by omega) hk v6
  have g8 := (g7).put (by omega) (by omega) hk v7
  simp only [Nat.sub_sub, Nat.reduceAdd] at g1 g2 g3 g4 g5 g6 g7 g8
  refine ih (i - 8 + 1) (by omega) _ ⟨i - 8, u / 100000000, _, rfl, hset_at _ _ _, fun z hz => (hset_ne _ _ _ hz).trans (hoth z hz), f0, rfl, ?_, g8, ?_, by omega, rfl⟩
  ·simp only [packed, fset_apply, Nat.reduceEqDiff, ↓reduceIte, List.getD_cons_zero, List.getD_cons_succ, f4, j8, ff_148]
  ·rw [div_step d L i 8 h8 hi, ← hu]
 ·have h8' : ((8 : Int) ≤ (i : Int)) = False := by simp only [eq_iff_iff, iff_false]; omega
  have hu8 : u < 10 ^ i := by
   rw [hu]
   refine Nat.div_lt_of_lt_mul ?_
   rw [← Nat.pow_add, Nat.sub_add_cancel hi]; exact hdL
  have hp8 : u < 100000000 := Nat.lt_of_lt_of_le hu8 (by have := Nat.pow_le_pow_right (n := 10) (by omega) (show i ≤ 8 by omega); simpa using this)
  have wu : IntKind.u32.wrap (u : Int) = (u : Int) := wu32 u (by omega)
  repeat (first | apply WK.seq | apply WK.block | apply WK.skipSeq | apply WK.skipBlock | apply WK.retSeq | apply WK.retBlock | apply WK.exitSeq | apply WK.exitHere | refine WK.exitOn rfl ?_ | ((first | (refine WK.rgn ?_ ?_; kernel_rfl) | refine AtCall.now ?_); simp (config := { maxSteps := 1000000 }) only [SS, qx11, forall_const, vconv, Int.reduceEq, Int.reduceNeg, Nat.reduceGT, Nat.reduceLT, Nat.reduceLeDiff, Nat.reduceEqDiff, ↓reduceIte, reduceCtorEq, Int.reduceToNat, Int.reduceLE, Int.reduceLT, Nat.reduceAdd, Nat.reduceMul, f0, f1, f4, h8', h8, wu, ff_148]) | (refine WK.condT ?_ ?_; focus (simp only [ev_tmp, ev_const, fset_apply, Nat.reduceEqDiff, ↓reduceIte, decide_true, decide_false, f0, f1, f4, h8', h8, wu, ff_148]; done)) | (refine WK.condF ?_ ?_; focus (simp only [ev_tmp, ev_const, fset_apply, Nat.reduceEqDiff, ↓reduceIte, decide_true, decide_false, f0, f1, f4, h8', h8, wu, ff_148]; done)))
  refine WK.cut (fun s => ∃ (i u : Nat) (cs : List Value), s.n = n' ∧ s.H x = .cells cs ty true ∧ (∀ z, z ≠ x → s.H z = H z) ∧ s.f 0 = .slice (some ⟨x, k, some 0⟩) L L ∧ s.f 12 = .int .u32 (u : Int) ∧ s.f 4 = .int .i64 (i : Int) ∧ Dg d L k cs0 cs i ∧ u = d / 10 ^ (L - i) ∧ i ≤ L ∧ i < 4) ?_ ?_
  ·by_cases h4 : 4 ≤ i
   ·have h4' : ((4 : Int) ≤ (i : Int)) = True := by simp only [eq_iff_iff, iff_true]; omega
    obtain ⟨C, hC⟩ : ∃ z, u % 10000 = z := ⟨_, rfl⟩
    have e1 : (u : Int).tmod 10000 = (C : Int) := by rw [← hC]; exact tm u 10000
    have e3 : IntKind.u32.wrap ((u : Int).tdiv 10000) = ((u / 10000 : Nat) : Int) := td32 u 10000 (by omega)
    obtain ⟨C1, hC1⟩ : ∃ z, C / 100 = z := ⟨_, rfl⟩
    obtain ⟨C0, hC0⟩ : ∃ z, C % 100 = z := ⟨_, rfl⟩
    have cq : IntKind.u32.wrap ((C : Int).tdiv 100) = (C1 : Int) := by rw [← hC1]; exact td32 C 100 (by omega)
    have cr : (C : Int).tmod 100 = (C0 : Int) := by rw [← hC0]; exact tm C 100
    have ca2 : IntKind.u32.wrap ((C1 : Int) * 2) = ((C1 * 2 : Nat) : Int) := x2 C1 (by omega)
    have ca3 : IntKind.u32.wrap (((C1 * 2 : Nat) : Int) + 1) = ((C1 * 2 + 1 : Nat) : Int) := p1 _ (by omega)
    have cb2 : IntKind.u32.wrap ((C0 : Int) * 2) = ((C0 * 2 : Nat) : Int) := x2 C0 (by omega)
    have cb3 : IntKind.u32.wrap (((C0 * 2 : Nat) : Int) + 1) = ((C0 * 2 + 1 : Nat) : Int) := p1 _ (by omega)
    have j1 : IntKind.i64.wrap ((i : Int) - 1) = ((i - 1 : Nat) : Int) := by rw [wrap_in (by omega) (by omega)]; omega
    have k1 : (0 : Int) ≤ ((i - 1 : Nat) : Int) ∧ ((i - 1 : Nat) : Int) < ((L : Nat) : Int) := by omega
    have l1 : k + (i - 1) + 1 ≤ cs.length := by omega
    have j2 : IntKind.i64.wrap ((i : Int) - 2) = ((i - 2 : Nat) : Int) := by rw [wrap_in (by omega) (by omega)]; omega
    have k2 : (0 : Int) ≤ ((i - 2 : Nat) : Int) ∧ ((i - 2 : Nat) : Int) < ((L : Nat) : Int) := by omega
    have l2 : k + (i - 2) + 1 ≤ cs.length := by omega
    have j3 : IntKind.i64.wrap ((i : Int) - 3) = ((i - 3 : Nat) : Int) := by rw [wrap_in (by omega) (by omega)]; omega
    have k3 : (0 : Int) ≤ ((i - 3 : Nat) : Int) ∧ ((i - 3 : Nat) : Int) < ((L : Nat) : Int) := by omega
    have l3 : k + (i - 3) + 1 ≤ cs.length := by omega
    have j4 : IntKind.i64.wrap ((i : Int) - 4) = ((i - 4 : Nat) : Int) := by rw [wrap_in (by omega) (by omega)]; omega
    have k4 : (0 : Int) ≤ ((i - 4 : Nat) : Int) ∧ ((i - 4 : Nat) : Int) < ((L : Nat) : Int) := by omega
    have l4 : k + (i - 4) + 1 ≤ cs.length := by omega
    repeat (first | apply WK.seq | apply WK.block | apply WK.skipSeq | apply WK.skipBlock | apply WK.retSeq | apply WK.retBlock | apply WK.exitSeq | apply WK.exitHere | refine WK.exitOn rfl ?_ | ((first | (refine WK.rgn ?_ ?_; kernel_rfl) | refine AtCall.now ?_); simp (config := { maxSteps := 1000000 }) only [SS, qx11, forall_const, vconv, Int.reduceEq, Int.reduceNeg, Nat.reduceGT, Nat.reduceLT, Nat.reduceLeDiff, Nat.reduceEqDiff, ↓reduceIte, reduceCtorEq, Int.reduceToNat, Int.reduceLE, Int.reduceLT, Nat.reduceAdd, Nat.reduceMul, f0, f1, f4, h4', h4, e1, e3, cq, cr, ca2, ca3, cb2, cb3, j1, k1, l1, j2, k2, l2, j3, k3, l3, j4, k4, l4, hx', hset_at, List.length_set, Int.toNat_natCast, List.length_cons, List.length_nil, ff_148]) | (refine WK.condT ?_ ?_; focus (simp only [ev_tmp, ev_const, fset_apply, Nat.reduceEqDiff, ↓reduceIte, decide_true, decide_false, f0, f1, f4, h4', h4, e1, e3, cq, cr, ca2, ca3, cb2, cb3, j1, k1, l1, j2, k2, l2, j3, k3, l3, j4, k4, l4, hx', hset_at, List.length_set, Int.toNat_natCast, List.length_cons, List.length_nil, ff_148]; done)) | (refine WK.condF ?_ ?_; focus (simp only [ev_tmp, ev_const, fset_apply, Nat.reduceEqDiff, ↓reduceIte, decide_true, decide_false, f0, f1, f4, h4', h4, e1, e3, cq, cr, ca2, ca3, cb2, cb3, j1, k1, l1, j2, k2, l2, j3, k3, l3, j4, k4, l4, hx', hset_at, List.length_set, Int.toNat_natCast, List.length_cons, List.length_nil, ff_148]; done)))
    refine w3_tab Ld 200 (C0 * 2 + 1) (by kernel_rfl) (by omega) ?_
    simp (config := { maxSteps := 1000000 }) only [SS, qx11, forall_const, vconv, Int.reduceEq, Int.reduceNeg, Nat.reduceGT, Nat.reduceLT, Nat.reduceLeDiff, Nat.reduceEqDiff, ↓reduceIte, reduceCtorEq, Int.reduceToNat, Int.reduceLE, Int.reduceLT, Nat.reduceAdd, Nat.reduceMul, f0, f1, f4, e1, e3, cq, cr, ca2, ca3, cb2, cb3, j1, k1, l1, j2, k2, l2, j3, k3, l3, j4, k4, l4, hx', hset_at, List.length_set, Int.toNat_natCast, List.length_cons, List.length_nil, ff_148]
    refine w3_tab Ld 200 (C0 * 2) (by kernel_rfl) (by omega) ?_
    simp (config := { maxSteps := 1000000 }) only [SS, qx11, forall_const, vconv, Int.reduceEq, Int.reduceNeg, Nat.reduceGT, Nat.reduceLT, Nat.reduceLeDiff, Nat.reduceEqDiff, ↓reduceIte, reduceCtorEq, Int.reduceToNat, Int.reduceLE, Int.reduceLT, Nat.reduceAdd, Nat.reduceMul, f0, f1, f4, e1, e3, cq, cr, ca2, ca3, cb2, cb3, j1, k1, l1, j2, k2, l2, j3, k3, l3, j4, k4, l4, hx', hset_at, List.length_set, Int.toNat_natCast, List.length_cons, List.length_nil, ff_148]
    repeat (first | apply WK.seq | apply WK.block | apply WK.skipSeq | apply WK.skipBlock | apply WK.retSeq | apply WK.retBlock | apply WK.exitSeq | apply WK.exitHere | refine WK.exitOn rfl ?_ | ((first | (refine WK.rgn ?_ ?_; kernel_rfl) | refine AtCall.now ?_); simp (config := { maxSteps := 1000000 }) only [SS, qx11, forall_const, vconv, Int.reduceEq, Int.reduceNeg, Nat.reduceGT, Nat.reduceLT, Nat.reduceLeDiff, Nat.reduceEqDiff, ↓reduceIte, reduceCtorEq, Int.reduceToNat, Int.reduceLE, Int.reduceLT, Nat.reduceAdd, Nat.reduceMul, f0, f1, f4, e1, e3, cq, cr, ca2, ca3, cb2, cb3, j1, k1, l1, j2, k2, l2, j3, k3, l3, j4, k4, l4, hx', hset_at, List.length_set, Int.toNat_natCast, List.length_cons, List.length_nil, ff_148]) | (refine WK.condT ?_ ?_; focus (simp only [ev_tmp, ev_const, fset_apply, Nat.reduceEqDiff, ↓reduceIte, decide_true, decide_false, f0, f1, f4, e1, e3, cq, cr, ca2, ca3, cb2, cb3, j1, k1, l1, j2, k2, l2, j3, k3, l3, j4, k4, l4, hx', hset_at, List.length_set, Int.toNat_natCast, List.length_cons, List.length_nil, ff_148]; done)) | (refine WK.condF ?_ ?_; focus (simp only [ev_tmp, ev_const, fset_apply, Nat.reduceEqDiff, ↓reduceIte, decide_true, decide_false, f0, f1, f4, e1, e3, cq, cr, ca2, ca3, cb2, cb3, j1, k1, l1, j2, k2, l2, j3, k3, l3, j4, k4, l4, hx', hset_at, List.length_set, Int.toNat_natCast, List.length_cons, List.length_nil, ff_148]; done)))
    refine w3_tab Ld 200 (C1 * 2 + 1) (by kernel_rfl) (by omega) ?_
    simp (config := { maxSteps := 1000000 }) only [SS, qx11, forall_const, vconv, Int.reduceEq, Int.reduceNeg, Nat.reduceGT, Nat.reduceLT, Nat.reduceLeDiff, Nat.reduceEqDiff, ↓reduceIte, reduceCtorEq, Int.reduceToNat, Int.reduceLE, Int.reduceLT, Nat.reduceAdd, Nat.reduceMul, f0, f1, f4, e1, e3, cq, cr, ca2, ca3, cb2, cb3, j1, k1, l1, j2, k2, l2, j3, k3, l3, j4, k4, l4, hx', hset_at, List.length_set, Int.toNat_natCast, List.length_cons, List.length_nil, ff_148]
    refine w3_tab Ld 200 (C1 * 2) (by kernel_rfl) (by omega) ?_
    simp (config := { maxSteps := 1000000 }) only [SS, qx11, forall_const, vconv, Int.reduceEq, Int.reduceNeg, Nat.reduceGT, Nat.reduceLT, Nat.reduceLeDiff, Nat.reduceEqDiff, ↓reduceIte, reduceCtorEq, Int.reduceToNat, Int.reduceLE, Int.reduceLT, Nat.reduceAdd, Nat.reduceMul, f0, f1, f4, e1, e3, cq, cr, ca2, ca3, cb2, cb3, j1, k1, l1, j2, k2, l2, j3, k3, l3, j4, k4, l4, hx', hset_at, List.length_set, Int.toNat_natCast, List.length_cons, List.length_nil, ff_148]
    repeat (first | apply WK.seq | apply WK.block | apply WK.skipSeq | apply WK.skipBlock | apply WK.retSeq | apply WK.retBlock | apply WK.exitSeq | apply WK.exitHere | refine WK.exitOn rfl ?_ | ((first | (refine WK.rgn ?_ ?_; kernel_rfl) | refine AtCall.now ?_); simp (config := { maxSteps := 1000000 }) only [SS, qx11, forall_const, vconv, Int.reduceEq, Int.reduceNeg, Nat.reduceGT, Nat.reduceLT, Nat.reduceLeDiff, Nat.reduceEqDiff, ↓reduceIte, reduceCtorEq, Int.reduceToNat, Int.reduceLE, Int.reduceLT, Nat.reduceAdd, Nat.reduceMul, f0, f1, f4, e1, e3, cq, cr, ca2, ca3, cb2, cb3, j1, k1, l1, j2, k2, l2, j3, k3, l3, j4, k4, l4, hx', hset_at, List.length_set, Int.toNat_natCast, List.length_cons, List.length_nil, ff_148]) | (refine WK.condT ?_ ?_; focus (simp only [ev_tmp, ev_const, fset_apply, Nat.reduceEqDiff, ↓reduceIte, decide_true, decide_false, f0, f1, f4, e1, e3, cq, cr, ca2, ca3, cb2, cb3, j1, k1, l1, j2, k2, l2, j3, k3, l3, j4, k4, l4, hx', hset_at, List.length_set, Int.toNat_natCast, List.length_cons, List.length_nil, ff_148]; done)) | (refine WK.condF ?_ ?_; focus (simp only [ev_tmp, ev_const, fset_apply, Nat.reduceEqDiff, ↓reduceIte, decide_true, decide_false, f0, f1, f4, e1, e3, cq, cr, ca2, ca3, cb2, cb3, j1, k1, l1, j2, k2, l2, j3, k3, l3, j4, k4, l4, hx', hset_at, List.length_set, Int.toNat_natCast, List.length_cons, List.length_nil, ff_148]; done)))
    have v0 : Ld (C0 * 2 + 1) = 48 + d / 10 ^ (L - (i - 0)) % 10 := by rw [div_step d L i 0 (by omega) hi, ← hu, Ld_odd]; simp only [Nat.reducePow]; omega
    have v1 : Ld (C0 * 2) = 48 + d / 10 ^ (L - (i - 1)) % 10 := by rw [div_step d L i 1 (by omega) hi, ← hu, Ld_even]; simp only [Nat.reducePow]; omega
    have v2 : Ld (C1 * 2 + 1) = 48 + d / 10 ^ (L - (i - 2)) % 10 := by rw [div_step d L i 2 (by omega) hi, ← hu, Ld_odd]; simp only [Nat.reducePow]; omega
    have v3 : Ld (C1 * 2) = 48 + d / 10 ^ (L - (i - 3)) % 10 := by rw [div_step d L i 3 (by omega) hi, ← hu, Ld_even]; simp only [Nat.reducePow]; omega
    have g1 := (hg).put (by omega) (by omega) hk v0
    have g2 := (g1).put (by omega) (by omega) hk v1
    have g3 := (g2).put (by omega) (by omega) hk v2
    have g4 := (g3).put (by omega) (by omega) hk v3
    simp only [Nat.sub_sub, Nat.reduceAdd] at g1 g2 g3 g4
    refine WK.skipNil ⟨rfl, i - 4, u / 10000, _, rfl, hset_at _ _ _, fun z hz => (hset_ne _ _ _ hz).trans (hoth z hz), f0, rfl, ?_, g4, ?_, by omega, by omega⟩
    ·simp only [packed, fset_apply, Nat.reduceEqDiff, ↓reduceIte, List.getD_cons_zero, List.getD_cons_succ, f4, j4, ff_148]
    ·rw [div_step d L i 4 h4 hi, ← hu]
   ·have h4' : ((4 : Int) ≤ (i : Int)) = False := by simp only [eq_iff_iff, iff_false]; omega
    repeat (first | apply WK.seq | apply WK.block | apply WK.skipSeq | apply WK.skipBlock | apply WK.retSeq | apply WK.retBlock | apply WK.exitSeq | apply WK.exitHere | refine WK.exitOn rfl ?_ | ((first | (refine WK.rgn ?_ ?_; kernel_rfl) | refine AtCall.now ?_); simp (config := { maxSteps := 1000000 }) only [SS, qx11, forall_const, vconv, Int.reduceEq, Int.reduceNeg, Nat.reduceGT, Nat.reduceLT, Nat.reduceLeDiff, Nat.reduceEqDiff, ↓reduceIte, reduceCtorEq, Int.reduceToNat, Int.reduceLE, Int.reduceLT, Nat.reduceAdd, Nat.reduceMul, f0, f1, f4, h4', h4, ff_148]) | (refine WK.condT ?_ ?_; focus (simp only [ev_tmp, ev_const, fset_apply, Nat.reduceEqDiff, ↓reduceIte, decide_true, decide_false, f0, f1, f4, h4', h4, ff_148]; done)) | (refine WK.condF ?_ ?_; focus (simp only [ev_tmp, ev_const, fset_apply, Nat.reduceEqDiff, ↓reduceIte, decide_true, decide_false, f0, f1, f4, h4', h4, ff_148]; done)))
    exact WK.skipNil ⟨rfl, i, u, cs, rfl, hx', hoth, f0, rfl, f4, hg, hu, hi, by omega⟩
  rintro ⟨f, n2, H2⟩ ⟨i, u, cs, rfl, hx', hoth, f0, f12, f4, hg, hu, hi, hlim⟩
  simp only at hx' hoth f0 f12 f4
  have hlen : k + L ≤ cs.length := by rw [hg.1]; exact hk
  have hu8 : u < 10 ^ i := by
   rw [hu]
   refine Nat.div_lt_of_lt_mul ?_
   rw [← Nat.pow_add, Nat.sub_add_cancel hi]; exact hdL
  have hp8 : u < 10000 := Nat.lt_of_lt_of_le hu8 (by have := Nat.pow_le_pow_right (n := 10) (by omega) (show i ≤ 4 by omega); simpa using this)
  repeat (first | apply WK.seq | apply WK.block | apply WK.skipSeq | apply WK.skipBlock | apply WK.retSeq | apply WK.retBlock | apply WK.exitSeq | apply WK.exitHere | refine WK.exitOn rfl ?_ | ((first | (refine WK.rgn ?_ ?_; kernel_rfl) | refine AtCall.now ?_); simp (config := { maxSteps := 1000000 }) only [SS, qx11, forall_const, vconv, Int.reduceEq, Int.reduceNeg, Nat.reduceGT, Nat.reduceLT, Nat.reduceLeDiff, Nat.reduceEqDiff, ↓reduceIte, reduceCtorEq, Int.reduceToNat, Int.reduceLE, Int.reduceLT, Nat.reduceAdd, Nat.reduceMul, f0, f12, f4, ff_148]) | (refine WK.condT ?_ ?_; focus (simp only [ev_tmp, ev_const, fset_apply, Nat.reduceEqDiff, ↓reduceIte, decide_true, decide_false, f0, f12, f4, ff_148]; done)) | (refine WK.condF ?_ ?_; focus (simp only [ev_tmp, ev_const, fset_apply, Nat.reduceEqDiff, ↓reduceIte, decide_true, decide_false, f0, f12, f4, ff_148]; done)))
  refine WK.cut (fun s => ∃ (i u : Nat) (cs : List Value), s.n = n2 ∧ s.H x = .cells cs ty true ∧ (∀ z, z ≠ x → s.H z = H z) ∧ s.f 0 = .slice (some ⟨x, k, some 0⟩) L L ∧ s.f 12 = .int .u32 (u : Int) ∧ s.f 4 = .int .i64 (i : Int) ∧ Dg d L k cs0 cs i ∧ u = d / 10 ^ (L - i) ∧ i ≤ L ∧ i < 2) ?_ ?_
  ·by_cases h2 : 2 ≤ i
   ·have h2' : ((2 : Int) ≤ (i : Int)) = True := by simp only [eq_iff_iff, iff_true]; omega
    obtain ⟨C0, hC0⟩ : ∃ z, u % 100 = z := ⟨_, rfl⟩
    have e1 : (u : Int).tmod 100 = (C0 : Int) := by rw [← hC0]; exact tm u 100
    have e3 : IntKind.u32.wrap ((u : Int).tdiv 100) = ((u / 100 : Nat) : Int) := td32 u 100 (by omega)
    have cb2 : IntKind.u32.wrap ((C0 : Int) * 2) = ((C0 * 2 : Nat) : Int) := x2 C0 (by omega)
    have cb3 : IntKind.u32.wrap (((C0 * 2 : Nat) : Int) + 1) = ((C0 * 2 + 1 : Nat) : Int) := p1 _ (by omega)
    have j1 : IntKind.i64.wrap ((i : Int) - 1) = ((i - 1 : Nat) : Int) := by rw [wrap_in (by omega) (by omega)]; omega
    have k1 : (0 : Int) ≤ ((i - 1 : Nat) : Int) ∧ ((i - 1 : Nat) : Int) < ((L : Nat) : Int) := by omega
    have l1 : k + (i - 1) + 1 ≤ cs.length := by omega
    have j2 : IntKind.i64.wrap ((i : Int) - 2) = ((i - 2 : Nat) : Int) := by rw [wrap_in (by omega) (by omega)]; omega
    have k2 : (0 : Int) ≤ ((i - 2 : Nat) : Int) ∧ ((i - 2 : Nat) : Int) < ((L : Nat) : Int) := by omega
    have l2 : k + (i - 2) + 1 ≤ cs.length := by omega
    repeat (first | apply WK.seq | apply WK.block | apply WK.skipSeq | apply WK.skipBlock | apply WK.retSeq | apply WK.retBlock | apply WK.exitSeq | apply WK.exitHere | refine WK.exitOn rfl ?_ | ((first | (refine WK.rgn ?_ ?_; kernel_rfl) | refine AtCall.now ?_); simp (config := { maxSteps := 1000000 }) only [SS, qx11, forall_const, vconv, Int.reduceEq, Int.reduceNeg, Nat.reduceGT, Nat.reduceLT, Nat.reduceLeDiff, Nat.reduceEqDiff, ↓reduceIte, reduceCtorEq, Int.reduceToNat, Int.reduceLE, Int.reduceLT, Nat.reduceAdd, Nat.reduceMul, f0, f4, h2', h2, f12, e1, e3, cb2, cb3, j1, k1, l1, j2, k2, l2, hx', hset_at, List.length_set, Int.toNat_natCast, List.length_cons, List.length_nil, ff_148]) | (refine WK.condT ?_ ?_; focus (simp only [ev_tmp, ev_const, fset_apply, Nat.reduceEqDiff, ↓reduceIte, decide_true, decide_false, f0, f4, h2', h2, f12, e1, e3, cb2, cb3, j1, k1, l1, j2, k2, l2, hx', hset_at, List.length_set, Int.toNat_natCast, List.length_cons, List.length_nil, ff_148]; done)) | (refine WK.condF ?_ ?_; focus (simp only [ev_tmp, ev_const, fset_apply, Nat.reduceEqDiff, ↓reduceIte, decide_true, decide_false, f0, f4, h2', h2, f12, e1, e3, cb2, cb3, j1, k1, l1, j2, k2, l2, hx', hset_at, List.length_set, Int.toNat_natCast, List.length_cons, List.length_nil, ff_148]; done)))
    refine w3_tab Ld 200 (C0 * 2 + 1) (by kernel_rfl) (by omega) ?_
    simp (config := { maxSteps := 1000000 }) only [SS, qx11, forall_const, vconv, Int.reduceEq, Int.reduceNeg, Nat.reduceGT, Nat.reduceLT, Nat.reduceLeDiff, Nat.reduceEqDiff, ↓reduceIte, reduceCtorEq, Int.reduceToNat, Int.reduceLE, Int.reduceLT, Nat.reduceAdd, Nat.reduceMul, f0, f4, f12, e1, e3, cb2, cb3, j1, k1, l1, j2, k2, l2, hx', hset_at, List.length_set, Int.toNat_natCast, List.length_cons, List.length_nil, ff_148]
    refine w3_tab Ld 200 (C0 * 2) (by kernel_rfl) (by omega) ?_
    simp (config := { maxSteps := 1000000 }) only [SS, qx11, forall_const, vconv, Int.reduceEq, Int.reduceNeg, Nat.reduceGT, Nat.reduceLT, Nat.reduceLeDiff, Nat.reduceEqDiff, ↓reduceIte, reduceCtorEq, Int.reduceToNat, Int.reduceLE, Int.reduceLT, Nat.reduceAdd, Nat.reduceMul, f0, f4, f12, e1, e3, cb2, cb3, j1, k1, l1, j2, k2, l2, hx', hset_at, List.length_set, Int.toNat_natCast, List.length_cons, List.length_nil, ff_148]
    repeat (first | apply WK.seq | apply WK.block | apply WK.skipSeq | apply WK.skipBlock | apply WK.retSeq | apply WK.retBlock | apply WK.exitSeq | apply WK.exitHere | refine WK.exitOn rfl ?_ | ((first | (refine WK.rgn ?_ ?_; kernel_rfl) | refine AtCall.now ?_); simp (config := { maxSteps := 1000000 }) only [SS, qx11, forall_const, vconv, Int.reduceEq, Int.reduceNeg, Nat.reduceGT, Nat.reduceLT, Nat.reduceLeDiff, Nat.reduceEqDiff, ↓reduceIte, reduceCtorEq, Int.reduceToNat, Int.reduceLE, Int.reduceLT, Nat.reduceAdd, Nat.reduceMul, f0, f4, f12, e1, e3, cb2, cb3, j1, k1, l1, j2, k2, l2, hx', hset_at, List.length_set, Int.toNat_natCast, List.length_cons, List.length_nil, ff_148]) | (refine WK.condT ?_ ?_; focus (simp only [ev_tmp, ev_const, fset_apply, Nat.reduceEqDiff, ↓reduceIte, decide_true, decide_false, f0, f4, f12, e1, e3, cb2, cb3, j1, k1, l1, j2, k2, l2, hx', hset_at, List.length_set, Int.toNat_natCast, List.length_cons, List.length_nil, ff_148]; done)) | (refine WK.condF ?_ ?_; focus (simp only [ev_tmp, ev_const, fset_apply, Nat.reduceEqDiff, ↓reduceIte, decide_true, decide_false, f0, f4, f12, e1, e3, cb2, cb3, j1, k1, l1, j2, k2, l2, hx', hset_at, List.length_set, Int.toNat_natCast, List.length_cons, List.length_nil, ff_148]; done)))
    have v0 : Ld (C0 * 2 + 1) = 48 + d / 10 ^ (L - (i - 0)) % 10 := by rw [div_step d L i 0 (by omega) hi, ← hu, Ld_odd]; simp only [Nat.reducePow]; omega
    have v1 : Ld (C0 * 2) = 48 + d / 10 ^ (L - (i - 1)) % 10 := by rw [div_step d L i 1 (by omega) hi, ← hu, Ld_even]; simp only [Nat.reducePow]; omega
    have g1 := (hg).put (by omega) (by omega) hk v0
    have g2 := (g1).put (by omega) (by omega) hk v1
    simp only [Nat.sub_sub, Nat.reduceAdd] at g1 g2
    refine WK.skipNil ⟨rfl, i - 2, u / 100, _, rfl, hset_at _ _ _, fun z hz => (hset_ne _ _ _ hz).trans (hoth z hz), f0, rfl, ?_, g2, ?_, by omega, by omega⟩
    ·simp only [packed, fset_apply, Nat.reduceEqDiff, ↓reduceIte, List.getD_cons_zero, List.getD_cons_succ, f4, j2, ff_148]
    ·rw [div_step d L i 2 h2 hi, ← hu]
   ·have h2' : ((2 : Int) ≤ (i : Int)) = False := by simp only [eq_iff_iff, iff_false]; omega
    repeat (first | apply WK.seq | apply WK.block | apply WK.skipSeq | apply WK.skipBlock | apply WK.retSeq | apply WK.retBlock | apply WK.exitSeq | apply WK.exitHere | refine WK.exitOn rfl ?_ | ((first | (refine WK.rgn ?_ ?_; kernel_rfl) | refine AtCall.now ?_); simp (config := { maxSteps := 1000000 }) only [SS, qx11, forall_const, vconv, Int.reduceEq, Int.reduceNeg, Nat.reduceGT, Nat.reduceLT, Nat.reduceLeDiff, Nat.reduceEqDiff, ↓reduceIte, reduceCtorEq, Int.reduceToNat, Int.reduceLE, Int.reduceLT, Nat.reduceAdd, Nat.reduceMul, f0, f12, f4, h2', h2, ff_148]) | (refine WK.condT ?_ ?_; focus (simp only [ev_tmp, ev_const, fset_apply, Nat.reduceEqDiff, ↓reduceIte, decide_true, decide_false, f0, f12, f4, h2', h2, ff_148]; done)) | (refine WK.condF ?_ ?_; focus (simp only [ev_tmp, ev_const, fset_apply, Nat.reduceEqDiff, ↓reduceIte, decide_true, decide_false, f0, f12, f4, h2', h2, ff_148]; done)))
    exact WK.skipNil ⟨rfl, i, u, cs, rfl, hx', hoth, f0, f12, f4, hg, hu, hi, by omega⟩
  rintro ⟨f, n3, H3⟩ ⟨i, u, cs, rfl, hx', hoth, f0, f12, f4, hg, hu, hi, hlim⟩
  simp only at hx' hoth f0 f12 f4
  have hlen : k + L ≤ cs.length := by rw [hg.1]; exact hk
  have hu8 : u < 10 ^ i := by
   rw [hu]
   refine Nat.div_lt_of_lt_mul ?_
   rw [← Nat.pow_add, Nat.sub_add_cancel hi]; exact hdL
  have hp8 : u < 10 := Nat.lt_of_lt_of_le hu8 (by have := Nat.pow_le_pow_right (n := 10) (by omega) (show i ≤ 1 by omega); simpa using this)
  by_cases h1 : 1 ≤ i
  ·have hi1 : i = 1 := by omega
   subst hi1
   have h1' : ((0 : Int) < ((1 : Nat) : Int)) = True := by simp
   have wa : IntKind.u32.wrap (48 + (u : Int)) = ((48 + u : Nat) : Int) := by rw [wrap_u32]; omega
   have wb : IntKind.u8.wrap ((48 + u : Nat) : Int) = ((48 + u : Nat) : Int) := wrap_u8n _ (by omega)
   have k0 : (0 : Int) ≤ 0 ∧ (0 : Int) < ((L : Nat) : Int) := by omega
   have k0' : (0 : Int) < ((L : Nat) : Int) := by omega
   have k0n : 0 < L := by omega
   have l0 : k + 1 ≤ cs.length := by omega
   have v0 : 48 + u = 48 + d / 10 ^ (L - 1) % 10 := by rw [← hu]; omega
   have g1 := hg.put (by omega) (by omega) hk v0
   simp only [Nat.sub_self, Nat.add_zero] at g1
   repeat (first | apply WK.seq | apply WK.block | apply WK.skipSeq | apply WK.skipBlock | apply WK.retSeq | apply WK.retBlock | apply WK.exitSeq | apply WK.exitHere | refine WK.exitOn rfl ?_ | ((first | (refine WK.rgn ?_ ?_; kernel_rfl) | refine AtCall.now ?_); simp (config := { maxSteps := 1000000 }) only [SS, qx11, forall_const, vconv, Int.reduceEq, Int.reduceNeg, Nat.reduceGT, Nat.reduceLT, Nat.reduceLeDiff, Nat.reduceEqDiff, ↓reduceIte, reduceCtorEq, Int.reduceToNat, Int.reduceLE, Int.reduceLT, Nat.reduceAdd, Nat.reduceMul, f0, f12, f4, h1', wa, wb, k0, k0', k0n, l0, hx', hset_at, List.length_set, Int.toNat_natCast, List.length_cons, List.length_nil, ff_148]) | (refine WK.condT ?_ ?_; focus (simp only [ev_tmp, ev_const, fset_apply, Nat.reduceEqDiff, ↓reduceIte, decide_true, decide_false, f0, f12, f4, h1', wa, wb, k0, k0', k0n, l0, hx', hset_at, List.length_set, Int.toNat_natCast, List.length_cons, List.length_nil, ff_148]; done)) | (refine WK.condF ?_ ?_; focus (simp only [ev_tmp, ev_const, fset_apply, Nat.reduceEqDiff, ↓reduceIte, decide_true, decide_false, f0, f12, f4, h1', wa, wb, k0, k0', k0n, l0, hx', hset_at, List.length_set, Int.toNat_natCast, List.length_cons, List.length_nil, ff_148]; done)))
   refine WK.skipNil ⟨Or.inl rfl, _, rfl, fun z hz hzx => (hset_ne _ _ _ hzx).trans (hoth z hzx), rfl, _, hset_at _ _ _, g1⟩
  ·have hi0 : i = 0 := by omega
   subst hi0
   have h1' : ((0 : Int) < ((0 : Nat) : Int)) = False := by simp
   repeat (first | apply WK.seq | apply WK.block | apply WK.skipSeq | apply WK.skipBlock | apply WK.retSeq | apply WK.retBlock | apply WK.exitSeq | apply WK.exitHere | refine WK.exitOn rfl ?_ | ((first | (refine WK.rgn ?_ ?_; kernel_rfl) | refine AtCall.now ?_); simp (config := { maxSteps := 1000000 }) only [SS, qx11, forall_const, vconv, Int.reduceEq, Int.reduceNeg, Nat.reduceGT, Nat.reduceLT, Nat.reduceLeDiff, Nat.reduceEqDiff, ↓reduceIte, reduceCtorEq, Int.reduceToNat, Int.reduceLE, Int.reduceLT, Nat.reduceAdd, Nat.reduceMul, f0, f12, f4, h1', ff_148]) | (refine WK.condT ?_ ?_; focus (simp only [ev_tmp, ev_const, fset_apply, Nat.reduceEqDiff, ↓reduceIte, decide_true, decide_false, f0, f12, f4, h1', ff_148]; done)) | (refine WK.condF ?_ ?_; focus (simp only [ev_tmp, ev_const, fset_apply, Nat.reduceEqDiff, ↓reduceIte, decide_true, decide_false, f0, f12, f4, h1', ff_148]; done)))
   exact WK.skipNil ⟨Or.inl rfl, _, rfl, fun z hz hzx => hoth z hzx, rfl, cs, hx', hg⟩
end Go.Proofs.YtihjaobjhmmboaaGreatDoor
