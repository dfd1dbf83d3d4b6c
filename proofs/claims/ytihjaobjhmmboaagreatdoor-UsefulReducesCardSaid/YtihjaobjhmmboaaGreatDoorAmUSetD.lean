/- A part of a proof. Its conditions: none. -/
import Derived.Test.YtihjaobjhmmboaaGreatDoorAmUBase10
set_option linter.all false
namespace Go.Proofs.YtihjaobjhmmboaaGreatDoor
open Go.AM
set_option maxRecDepth 100000
def lft (d nd q : Nat) : Nat := d / 10 ^ (nd - 1 - q) % 10
set_option maxHeartbeats 4000000 in
theorem setDigits_gives {x L d nd : Nat} {p : Int} {cs0 : List Value} {ty : TypeId} {n : Nat} {H : Heap} (hx : H x = .cells cs0 ty true) (hL : L = cs0.length) (hL1 : L ≤ 1000) (hnd : nd ≤ L) (hd : d < 18446744073709551616) (hdL : d < 10 ^ nd) (hp : -100000 ≤ p ∧ p ≤ 100000) :
  GivesX Tryz.prog (fun z => z = x) 124 [.slice (some ⟨x, 0, some 0⟩) L L, .int .u64 d, .int .i64 p, .int .i64 (nd : Int)] n H fun v n' H' => n' = n ∧ ∃ (cs : List Value) (nz : Nat),
   v = .tuple #[.int .i64 ((nd : Int) + p), .int .i64 (nz : Int)] ∧ H' x = .cells cs ty true ∧ cs.length = L ∧ (∀ q, q < nd → cs[q]? = some (.int .u8 ((48 + lft d nd q : Nat) : Int))) ∧
   nz ≤ nd ∧ (∀ q, nz ≤ q → q < nd → lft d nd q = 0) ∧ (nz = 0 ∨ lft d nd (nz - 1) ≠ 0) := by
 refine GivesX.of orders ok124 (Nat.le_of_ble_eq_true rfl) ?_
 have h1 : ((nd : Int) ≤ ((L : Nat) : Int)) = True := by simp only [eq_iff_iff, iff_true]; omega
 have h1n : (0 : Int) ≤ (nd : Int) := by omega
 have h2 : IntKind.i64.wrap ((nd : Int) + p) = (nd : Int) + p := wrap_in (by omega) (by omega)
 repeat (first | apply WK.seq | apply WK.block | apply WK.skipSeq | apply WK.skipBlock | apply WK.retSeq | apply WK.retBlock | apply WK.exitSeq | apply WK.exitHere | refine WK.exitOn rfl ?_ | ((first | (refine WK.rgn ?_ ?_; kernel_rfl) | refine AtCall.now ?_); simp (config := { maxSteps := 1000000 }) only [SS, qx34, forall_const, Int.reduceEq, Int.reduceNeg, Nat.reduceGT, Nat.reduceLT, Nat.reduceLeDiff, Nat.reduceEqDiff, ↓reduceIte, reduceCtorEq, Int.reduceToNat, Int.reduceLE, Int.reduceLT, Nat.reduceAdd, Nat.reduceMul, h1, hnd, h1n, Nat.zero_le, Nat.sub_zero, Int.toNat_natCast, ff_124]) | (refine WK.condT ?_ ?_; focus (simp only [ev_tmp, ev_const, fset_apply, Nat.reduceEqDiff, ↓reduceIte, decide_true, decide_false, h1, hnd, h1n, Nat.zero_le, Nat.sub_zero, Int.toNat_natCast, ff_124]; done)) | (refine WK.condF ?_ ?_; focus (simp only [ev_tmp, ev_const, fset_apply, Nat.reduceEqDiff, ↓reduceIte, decide_true, decide_false, h1, hnd, h1n, Nat.zero_le, Nat.sub_zero, Int.toNat_natCast, ff_124]; done)))
 refine AtCall.byX (base10_gives hx (by omega) (by omega) hd hdL) ?_
 rintro v n1 H1 kx ⟨rfl, cs, hx1, hg⟩
 have hlen : cs.length = L := by rw [hg.1, hL]
 have hget : ∀ q, q < nd → cs[q]? = some (.int .u8 ((48 + lft d nd q : Nat) : Int)) := by
  intro q hq
  rw [hg.2 q, if_pos (by omega)]
  unfold lft
  rw [show 0 + nd - 1 - q = nd - 1 - q by omega]
 simp (config := { maxSteps := 1000000 }) only [SS, qx34, forall_const, Int.reduceEq, Int.reduceNeg, Nat.reduceGT, Nat.reduceLT, Nat.reduceLeDiff, Nat.reduceEqDiff, ↓reduceIte, reduceCtorEq, Int.reduceToNat, Int.reduceLE, Int.reduceLT, Nat.reduceAdd, Nat.reduceMul, ff_124]
 repeat (first | apply WK.seq | apply WK.block | apply WK.skipSeq | apply WK.skipBlock | apply WK.retSeq | apply WK.retBlock | apply WK.exitSeq | apply WK.exitHere | refine WK.exitOn rfl ?_ | ((first | (refine WK.rgn ?_ ?_; kernel_rfl) | refine AtCall.now ?_); simp (config := { maxSteps := 1000000 }) only [SS, qx34, forall_const, Int.reduceEq, Int.reduceNeg, Nat.reduceGT, Nat.reduceLT, Nat.reduceLeDiff, Nat.reduceEqDiff, ↓reduceIte, reduceCtorEq, Int.reduceToNat, Int.reduceLE, Int.reduceLT, Nat.reduceAdd, Nat.reduceMul, h2, ff_124]) | (refine WK.condT ?_ ?_; focus (simp only [ev_tmp, ev_const, fset_apply, Nat.reduceEqDiff, ↓reduceIte, decide_true, decide_false, h2, ff_124]; done)) | (refine WK.condF ?_ ?_; focus (simp only [ev_tmp, ev_const, fset_apply, Nat.reduceEqDiff, ↓reduceIte, decide_true, decide_false, h2, ff_124]; done)))
 refine WK.loop (fun kk s => ∃ j : Nat, s.n = n1 ∧ s.H = H1 ∧ s.f 0 = .slice (some ⟨x, 0, some 0⟩) L L ∧ s.f 3 = .int .i64 (j : Int) ∧ s.f 8 = .int .i64 ((nd : Int) + p) ∧ j ≤ nd ∧ (∀ q, j ≤ q → q < nd → lft d nd q = 0) ∧ kk = j + 1) (nd + 1) ?_ ?_
 ·exact ⟨nd, rfl, rfl, rfl, rfl, rfl, Nat.le_refl _, fun q h1 h2 => by omega, rfl⟩
 rintro kk ⟨f, n2, H2⟩ ⟨j, rfl, rfl, f0, f3, f8, hj, hz, rfl⟩ ih
 simp only at f0 f3 f8 ih hx1 kx
 by_cases hj0 : 0 < j
 ·have hj0' : ((0 : Int) < (j : Int)) = True := by simp only [eq_iff_iff, iff_true]; omega
  have j1 : IntKind.i64.wrap ((j : Int) - 1) = ((j - 1 : Nat) : Int) := by rw [wrap_in (by omega) (by omega)]; omega
  have k1 : (0 : Int) ≤ ((j - 1 : Nat) : Int) ∧ ((j - 1 : Nat) : Int) < ((L : Nat) : Int) := by omega
  have hc := hget (j - 1) (by omega)
  by_cases hz0 : lft d nd (j - 1) = 0
  ·have he : ((48 + lft d nd (j - 1) : Nat) : Int) = 48 := by rw [hz0]; rfl
   rw [he] at hc
   repeat (first | apply WK.seq | apply WK.block | apply WK.skipSeq | apply WK.skipBlock | apply WK.retSeq | apply WK.retBlock | apply WK.exitSeq | apply WK.exitHere | refine WK.exitOn rfl ?_ | ((first | (refine WK.rgn ?_ ?_; kernel_rfl) | refine AtCall.now ?_); simp (config := { maxSteps := 1000000 }) only [SS, qx34, forall_const, Int.reduceEq, Int.reduceNeg, Nat.reduceGT, Nat.reduceLT, Nat.reduceLeDiff, Nat.reduceEqDiff, ↓reduceIte, reduceCtorEq, Int.reduceToNat, Int.reduceLE, Int.reduceLT, Nat.reduceAdd, Nat.reduceMul, f0, f3, hj0', hj0, j1, k1, hx1, hc, Int.toNat_natCast, ff_124]) | (refine WK.condT ?_ ?_; focus (simp only [ev_tmp, ev_const, fset_apply, Nat.reduceEqDiff, ↓reduceIte, decide_true, decide_false, f0, f3, hj0', hj0, j1, k1, hx1, hc, Int.toNat_natCast, ff_124]; done)) | (refine WK.condF ?_ ?_; focus (simp only [ev_tmp, ev_const, fset_apply, Nat.reduceEqDiff, ↓reduceIte, decide_true, decide_false, f0, f3, hj0', hj0, j1, k1, hx1, hc, Int.toNat_natCast, ff_124]; done)))
   refine ih (j - 1 + 1) (by omega) _ ⟨j - 1, rfl, rfl, f0, ?_, f8, by omega, fun q h1 h2 => ?_, rfl⟩
   ·simp only [packed, fset_apply, Nat.reduceEqDiff, ↓reduceIte, List.getD_cons_zero, List.getD_cons_succ, f3, j1, ff_124]
   ·by_cases e : q = j - 1
    ·rw [e]; exact hz0
    ·exact hz q (by omega) h2
  ·have he : (((48 + lft d nd (j - 1) : Nat) : Int) = 48) = False := by simp only [eq_iff_iff, iff_false]; omega
   generalize ((48 + lft d nd (j - 1) : Nat) : Int) = w at hc he
   repeat (first | apply WK.seq | apply WK.block | apply WK.skipSeq | apply WK.skipBlock | apply WK.retSeq | apply WK.retBlock | apply WK.exitSeq | apply WK.exitHere | refine WK.exitOn rfl ?_ | ((first | (refine WK.rgn ?_ ?_; kernel_rfl) | refine AtCall.now ?_); simp (config := { maxSteps := 1000000 }) only [SS, qx34, forall_const, Int.reduceEq, Int.reduceNeg, Nat.reduceGT, Nat.reduceLT, Nat.reduceLeDiff, Nat.reduceEqDiff, ↓reduceIte, reduceCtorEq, Int.reduceToNat, Int.reduceLE, Int.reduceLT, Nat.reduceAdd, Nat.reduceMul, f0, f3, f8, hj0', hj0, j1, k1, hx1, hc, Int.toNat_natCast, he, ff_124]) | (refine WK.condT ?_ ?_; focus (simp only [ev_tmp, ev_const, fset_apply, Nat.reduceEqDiff, ↓reduceIte, decide_true, decide_false, f0, f3, f8, hj0', hj0, j1, k1, hx1, hc, Int.toNat_natCast, he, ff_124]; done)) | (refine WK.condF ?_ ?_; focus (simp only [ev_tmp, ev_const, fset_apply, Nat.reduceEqDiff, ↓reduceIte, decide_true, decide_false, f0, f3, f8, hj0', hj0, j1, k1, hx1, hc, Int.toNat_natCast, he, ff_124]; done)))
   refine WK.retNil ⟨Or.inr rfl, _, rfl, fun z hz' hzx => kx.keep z hz' hzx, ?_⟩
   simp only [packed, fset_apply, Nat.reduceEqDiff, ↓reduceIte, List.getD_cons_zero, List.getD_cons_succ, f3, f8, ff_124]
   exact ⟨trivial, cs, j, rfl, hx1, hlen, hget, hj, hz, .inr hz0⟩
 ·have hj0' : ((0 : Int) < (j : Int)) = False := by simp only [eq_iff_iff, iff_false]; omega
  have hje : j = 0 := by omega
  subst hje
  have hj0'' : ((0 : Int) < ((0 : Nat) : Int)) = False := by simp
  repeat (first | apply WK.seq | apply WK.block | apply WK.skipSeq | apply WK.skipBlock | apply WK.retSeq | apply WK.retBlock | apply WK.exitSeq | apply WK.exitHere | refine WK.exitOn rfl ?_ | ((first | (refine WK.rgn ?_ ?_; kernel_rfl) | refine AtCall.now ?_); simp (config := { maxSteps := 1000000 }) only [SS, qx34, forall_const, Int.reduceEq, Int.reduceNeg, Nat.reduceGT, Nat.reduceLT, Nat.reduceLeDiff, Nat.reduceEqDiff, ↓reduceIte, reduceCtorEq, Int.reduceToNat, Int.reduceLE, Int.reduceLT, Nat.reduceAdd, Nat.reduceMul, f0, f3, f8, hj0', hj0'', hj0, ff_124]) | (refine WK.condT ?_ ?_; focus (simp only [ev_tmp, ev_const, fset_apply, Nat.reduceEqDiff, ↓reduceIte, decide_true, decide_false, f0, f3, f8, hj0', hj0'', hj0, ff_124]; done)) | (refine WK.condF ?_ ?_; focus (simp only [ev_tmp, ev_const, fset_apply, Nat.reduceEqDiff, ↓reduceIte, decide_true, decide_false, f0, f3, f8, hj0', hj0'', hj0, ff_124]; done)))
  refine WK.retNil ⟨Or.inr rfl, _, rfl, fun z hz' hzx => kx.keep z hz' hzx, ?_⟩
  simp only [packed, fset_apply, Nat.reduceEqDiff, ↓reduceIte, List.getD_cons_zero, List.getD_cons_succ, f3, f8, ff_124]
  exact ⟨trivial, cs, 0, rfl, hx1, hlen, hget, hj, hz, .inl rfl⟩
end Go.Proofs.YtihjaobjhmmboaaGreatDoor
