/- A part of a proof. Its conditions: none. -/
import Derived.Test.YtihjaobjhmmboaaGreatDoorAmUDigits
import Derived.Test.YtihjaobjhmmboaaGreatDoorAmC
set_option linter.all false
namespace Go.Proofs.YtihjaobjhmmboaaGreatDoor
open Go.AM
set_option maxRecDepth 100000
theorem ev_global {f : Fr} (g : Nat) : evalA f (.global g) = .pointer (some ⟨g, 0, none⟩) := rfl
def powHi (i : Nat) : Nat := (Go.Pinned.pow10Rows.getD i (0, 0)).1
def powLo (i : Nat) : Nat := (Go.Pinned.pow10Rows.getD i (0, 0)).2
theorem pows_len : Go.Pinned.pow10Rows.length = 696 := by kernel_rfl
theorem pows_at (i : Nat) (h : i < 696) : pows[i * 2]? = some (.int .u64 (powHi i : Int)) ∧ pows[i * 2 + 1]? = some (.int .u64 (powLo i : Int)) := by
  have key : ∀ (rows : List (Nat × Nat)) (i : Nat), i < rows.length →
      (rows.flatMap fun x => [Value.int .u64 x.1, Value.int .u64 x.2])[i * 2]? = some (.int .u64 ((rows.getD i (0, 0)).1 : Int)) ∧ (rows.flatMap fun x => [Value.int .u64 x.1, Value.int .u64 x.2])[i * 2 + 1]? = some (.int .u64 ((rows.getD i (0, 0)).2 : Int)) := by
    intro rows
    induction rows with
    | nil => intro i h; simp at h
    | cons r rows ih =>
      intro i h
      cases i with
      | zero => exact ⟨rfl, rfl⟩
      | succ i =>
        have := ih i (by simp at h; omega)
        simp only [List.flatMap_cons, List.cons_append, List.nil_append, List.getD_cons_succ]
        rw [show (i + 1) * 2 = i * 2 + 1 + 1 by omega, show i * 2 + 1 + 1 + 1 = (i * 2 + 1) + 1 + 1 by omega]
        simpa using this
  exact key Go.Pinned.pow10Rows i (by rw [pows_len]; exact h)
theorem prescale_gives (e p lp : Int) (he : -100000 ≤ e ∧ e ≤ 100000) (hlp : -100000 ≤ lp ∧ lp ≤ 100000) (hp : -348 ≤ p ∧ p < 348) {y n : Nat} {H : Heap} {ty : TypeId} {a b c : Value}
  (hy : H y = .cells [a, b, c] ty true) (h4 : H 4 = .cells pows 179 false) :
  GivesX Tryz.prog (fun z => z = y) 141 [.pointer (some ⟨y, 0, none⟩), .int .i64 e, .int .i64 p, .int .i64 lp] n H fun v n' H' =>
   n' = n ∧ H' y = .cells [.int .u64 (powHi (p + 348).toNat : Int), .int .u64 (powLo (p + 348).toNat : Int), .int .i64 (-(e + lp + 3))] ty true := by
 refine GivesX.of orders ok141 (Nat.le_of_ble_eq_true rfl) ?_
 have w1 : IntKind.i64.wrap (p - -348) = p + 348 := by rw [show p - -348 = p + 348 by omega]; exact wrap_in (by omega) (by omega)
 have w2 : IntKind.i64.wrap (e + lp) = e + lp := wrap_in (by omega) (by omega)
 have w3 : IntKind.i64.wrap (e + lp + 3) = e + lp + 3 := wrap_in (by omega) (by omega)
 have w4 : IntKind.i64.wrap (0 - (e + lp + 3)) = -(e + lp + 3) := by rw [Int.zero_sub]; exact wrap_in (by omega) (by omega)
 have hi0 : (0 : Int) ≤ p + 348 := by omega
 have hi1 : p + 348 < 696 := by omega
 obtain ⟨g0, g1⟩ := pows_at (p + 348).toNat (by omega)
 have hne : (4 : Nat) ≠ y := by intro e; subst e; rw [h4] at hy; cases hy
 have k1 : ∀ o, hset H y o 4 = .cells pows 179 false := fun o => (hset_ne _ _ _ hne).trans h4
 have hi0' : (0 : Int) ≤ p + 348 ∧ p + 348 < ((696 : Nat) : Int) := by omega
 obtain ⟨i, hi⟩ : ∃ i, (p + 348).toNat = i := ⟨_, rfl⟩
 rw [hi] at g0 g1 ⊢
 generalize pows = ps at *
 have l3 : ([a, b, c] : List Value).length = 3 := rfl
 repeat (first | apply WK.seq | apply WK.block | apply WK.skipSeq | apply WK.skipBlock | apply WK.retSeq | apply WK.retBlock | apply WK.exitSeq | apply WK.exitHere | refine WK.exitOn rfl ?_ | ((first | (refine WK.rgn ?_ ?_; kernel_rfl) | refine AtCall.now ?_); simp (config := { maxSteps := 1000000 }) only [SS, forall_const, wx, tguard, acallee, top, tval, fput, tor, vsh, vbin, vun, tload, tload2, tload3, tstore, tstore2, tstore3, Go.AM.splice, one, tidx, tidx2, tidx3, tfa, tfa2, Int.reduceEq, Int.reduceNeg, Nat.reduceGT, Nat.reduceLT, Nat.reduceLeDiff, Nat.reduceEqDiff, ↓reduceIte, reduceCtorEq, Int.reduceToNat, Int.reduceLE, Int.reduceLT, Nat.reduceAdd, Nat.reduceMul, aop_nc, tnc, ev_global, hi, hi0', and_self, h4, g0, g1, w1, hy, w2, w3, w4, hset_at, k1, List.set_cons_zero, List.set_cons_succ, List.length_cons, List.length_nil, ff_141]) | (refine WK.condT ?_ ?_; focus (simp only [ev_tmp, ev_const, fset_apply, Nat.reduceEqDiff, ↓reduceIte, decide_true, decide_false, aop_nc, tnc, ev_global, hi, hi0', and_self, h4, g0, g1, w1, hy, w2, w3, w4, hset_at, k1, List.set_cons_zero, List.set_cons_succ, List.length_cons, List.length_nil, ff_141]; done)) | (refine WK.condF ?_ ?_; focus (simp only [ev_tmp, ev_const, fset_apply, Nat.reduceEqDiff, ↓reduceIte, decide_true, decide_false, aop_nc, tnc, ev_global, hi, hi0', and_self, h4, g0, g1, w1, hy, w2, w3, w4, hset_at, k1, List.set_cons_zero, List.set_cons_succ, List.length_cons, List.length_nil, ff_141]; done)))
 refine WK.skipNil ⟨Or.inl rfl, _, rfl, fun z hz hzx => hset_ne _ _ _ hzx, rfl, hset_at _ _ _⟩
theorem w64 : IntKind.u64.wrap (8 * 8) = 64 := rfl
theorem w63 : IntKind.i64.wrap (63 - 52) = 11 := rfl
theorem w11a : IntKind.i64.wrap (11 - 2) = 9 := rfl
theorem w11b : IntKind.i64.wrap (11 - 1) = 10 := rfl
theorem nb9 : ((9 : Int) < 0) = False := by simp
theorem nb10 : ((10 : Int) < 0) = False := by simp
theorem nb11 : ((11 : Int) < 0) = False := by simp
theorem min9 : min 9 IntKind.u64.bits = 9 := rfl
theorem min10 : min 10 IntKind.u64.bits = 10 := rfl
theorem min11 : min 11 IntKind.u64.bits = 11 := rfl
theorem o9 : IntKind.u64.wrap (1 * 2 ^ 9) = 512 := rfl
theorem o10 : IntKind.u64.wrap (1 * 2 ^ 10) = 1024 := rfl
set_option maxHeartbeats 4000000 in
theorem short_gives (m : Nat) (e p : Int) (mn mx odd hi lo sh : Nat) (hm : 9223372036854775808 ≤ m ∧ m + 2048 ≤ 18446744073709551616) (he : -100 ≤ e ∧ e ≤ 900) (hp : -340 ≤ p ∧ p < 340)
  (hpow : m = 9223372036854775808 → -((e + 11) * 631305 - 261663).fdiv (2 ^ 21) = p ∧ mn = m - 512) (hnot : m ≠ 9223372036854775808 → -((e + 11) * 78913).fdiv (2 ^ 18) = p ∧ mn = m - 1024)
  (hmx' : mx = m + 1024) (hodd : odd = m / 2048 % 2) (hhi' : hi = powHi (p + 348).toNat) (hlo' : lo = powLo (p + 348).toNat) (hhi : hi < 18446744073709551616) (hlo : lo < 18446744073709551616)
  (hsv : -(e + (p * 108853).fdiv (2 ^ 15) + 3) = (sh : Int)) (hsh : sh < 64) (b1 : uscaleS mn hi lo sh < 18446744073709551600) (b2 : uscaleS mx hi lo sh < 18446744073709551600) (hox : odd ≤ uscaleS mx hi lo sh)
  (hfirst : (uscaleS mn hi lo sh + odd + 3) / 4 ≤ (uscaleS mx hi lo sh - odd) / 4 / 10 * 10)
  {n : Nat} {H : Heap} (hw : WF n H) (h4 : H 4 = .cells pows 179 false) :
  Gives Tryz.prog 131 [.int .u64 m, .int .i64 e] n H fun v n' H' => v = .tuple #[.int .u64 (((uscaleS mx hi lo sh - odd) / 4 / 10 : Nat) : Int), .int .i64 (-(p - 1))] := by
 refine Gives.of orders ok131 (Nat.le_of_ble_eq_true rfl) ?_
 have hgn : (4 : Nat) ≠ n := by intro h; rw [h, hw n (Nat.le_refl _)] at h4; cases h4
 have hmn : mn < 18446744073709551616 := by
  by_cases h : m = 9223372036854775808
  ·have := (hpow h).2; omega
  ·have := (hnot h).2; omega
 have hmx : mx < 18446744073709551616 := by omega
 have ho1 : odd < 2 := by omega
 have w1 : IntKind.i64.wrap (e + 11) = e + 11 := wrap_in (by omega) (by omega)
 have hge : (-1085 ≤ e) = True := by simp; omega
 have hgt : (-1085 < e) = True := by simp; omega
 have mx1 : IntKind.u64.wrap ((m : Int) + 1024) = (mx : Int) := by rw [wrap_u64]; omega
 have od1 : (m : Int).fdiv (2 ^ 11) = ((m / 2048 : Nat) : Int) := shr_nat m 11
 have od2 : IntKind.i64.wrap (BitVec.ofInt IntKind.i64.bits (IntKind.i64.wrap ((m / 2048 : Nat) : Int)) &&& BitVec.ofInt IntKind.i64.bits 1).toNat = (odd : Int) := by
  have hin : IntKind.i64.wrap ((m / 2048 : Nat) : Int) = ((m / 2048 : Nat) : Int) := wrap_i64n _ (by omega)
  rw [hin]
  have := and_i64 (m / 2048) 1 (by omega) (by omega)
  have h' : IntKind.i64.wrap (BitVec.ofInt IntKind.i64.bits ((m / 2048 : Nat) : Int) &&& BitVec.ofInt IntKind.i64.bits 1).toNat = ((m / 2048 &&& 1 : Nat) : Int) := this
  rw [h', show (1 : Nat) = 2 ^ 1 - 1 by rfl, and_mask, hodd]
 have ngo : IntKind.i64.wrap (0 - (odd : Int)) = -(odd : Int) := by rw [Int.zero_sub]; exact wrap_in (by omega) (by omega)
 generalize hU1 : uscaleS mn hi lo sh = U1 at *
 generalize hU2 : uscaleS mx hi lo sh = U2 at *
 have q1 : IntKind.u64.wrap ((((U2 - odd) / 4 : Nat) : Int).tdiv 10) = (((U2 - odd) / 4 / 10 : Nat) : Int) := by
  rw [show (((U2 - odd) / 4 : Nat) : Int).tdiv 10 = (((U2 - odd) / 4 / 10 : Nat) : Int) from rfl, wrap_u64n, Nat.mod_eq_of_lt (by omega)]
 have q2 : IntKind.u64.wrap ((((U2 - odd) / 4 / 10 : Nat) : Int) * 10) = (((U2 - odd) / 4 / 10 * 10 : Nat) : Int) := wmul _ 10 _ rfl (by omega)
 have q3 : IntKind.i64.wrap (p - 1) = p - 1 := wrap_in (by omega) (by omega)
 have q4 : IntKind.i64.wrap (0 - (p - 1)) = -(p - 1) := by rw [Int.zero_sub]; exact wrap_in (by omega) (by omega)
 have hfi : ((((U1 + odd + 3) / 4 : Nat) : Int) ≤ (((U2 - odd) / 4 / 10 * 10 : Nat) : Int)) = True := by simp only [eq_iff_iff, iff_true]; exact_mod_cast hfirst
 have hlp : e + (p * 108853).fdiv (2 ^ 15) + 3 = -(sh : Int) := by omega
 have hlpr : -100000 ≤ (p * 108853).fdiv (2 ^ 15) ∧ (p * 108853).fdiv (2 ^ 15) ≤ 100000 := by omega
 by_cases hpw : m = 9223372036854775808
 ·obtain ⟨hpe, hmne⟩ := hpow hpw
  have mn1 : IntKind.u64.wrap ((m : Int) - 512) = (mn : Int) := by rw [wrap_u64]; omega
  have hpw' : ((m : Int) = 9223372036854775808) = True := by simp only [eq_iff_iff, iff_true]; omega
  repeat (first | apply WK.seq | apply WK.block | apply WK.skipSeq | apply WK.skipBlock | apply WK.retSeq | apply WK.retBlock | apply WK.exitSeq | apply WK.exitHere | refine WK.exitOn rfl ?_ | ((first | (refine WK.rgn ?_ ?_; kernel_rfl) | refine AtCall.now ?_); simp (config := { maxSteps := 1000000 }) only [SS, qx13, forall_const, vconv, vun, Int.reduceEq, Int.reduceNeg, Nat.reduceGT, Nat.reduceLT, Nat.reduceLeDiff, Nat.reduceEqDiff, ↓reduceIte, reduceCtorEq, Int.reduceToNat, Int.reduceLE, Int.reduceLT, Nat.reduceAdd, Nat.reduceMul, hpw', hgt, w1, w64, w63, ff_131]) | (refine WK.condT ?_ ?_; focus (simp only [ev_tmp, ev_const, fset_apply, Nat.reduceEqDiff, ↓reduceIte, decide_true, decide_false, hpw', hgt, w1, w64, w63, ff_131]; done)) | (refine WK.condF ?_ ?_; focus (simp only [ev_tmp, ev_const, fset_apply, Nat.reduceEqDiff, ↓reduceIte, decide_true, decide_false, hpw', hgt, w1, w64, w63, ff_131]; done)))
  refine AtCall.by (skewed_gives (e + 11) (by omega) _ _) ?_
  rintro v n' H' hk ⟨rfl, rfl, rfl⟩
  have hps : IntKind.i64.wrap (0 - ((e + 11) * 631305 - 261663).fdiv (2 ^ 21)) = p := by rw [Int.zero_sub, hpe]; exact wrap_in (by omega) (by omega)
  simp (config := { maxSteps := 1000000 }) only [SS, qx13, forall_const, vconv, vun, Int.reduceEq, Int.reduceNeg, Nat.reduceGT, Nat.reduceLT, Nat.reduceLeDiff, Nat.reduceEqDiff, ↓reduceIte, reduceCtorEq, Int.reduceToNat, Int.reduceLE, Int.reduceLT, Nat.reduceAdd, Nat.reduceMul, hps, ff_131]
  repeat (first | apply WK.seq | apply WK.block | apply WK.skipSeq | apply WK.skipBlock | apply WK.retSeq | apply WK.retBlock | apply WK.exitSeq | apply WK.exitHere | refine WK.exitOn rfl ?_ | ((first | (refine WK.rgn ?_ ?_; kernel_rfl) | refine AtCall.now ?_); simp (config := { maxSteps := 1000000 }) only [SS, qx13, forall_const, vconv, vun, Int.reduceEq, Int.reduceNeg, Nat.reduceGT, Nat.reduceLT, Nat.reduceLeDiff, Nat.reduceEqDiff, ↓reduceIte, reduceCtorEq, Int.reduceToNat, Int.reduceLE, Int.reduceLT, Nat.reduceAdd, Nat.reduceMul, hps, w11a, w11b, min9, min10, min11, o9, o10, mn1, mx1, od1, od2, nb9, nb10, nb11, vcells, Value.cells, ff_131]) | (refine WK.condT ?_ ?_; focus (simp only [ev_tmp, ev_const, fset_apply, Nat.reduceEqDiff, ↓reduceIte, decide_true, decide_false, hps, w11a, w11b, min9, min10, min11, o9, o10, mn1, mx1, od1, od2, nb9, nb10, nb11, vcells, Value.cells, ff_131]; done)) | (refine WK.condF ?_ ?_; focus (simp only [ev_tmp, ev_const, fset_apply, Nat.reduceEqDiff, ↓reduceIte, decide_true, decide_false, hps, w11a, w11b, min9, min10, min11, o9, o10, mn1, mx1, od1, od2, nb9, nb10, nb11, vcells, Value.cells, ff_131]; done)))
  refine AtCall.by (log2_gives p (by omega) _ _) ?_
  rintro v n' H' hk ⟨rfl, rfl, rfl⟩
  simp (config := { maxSteps := 1000000 }) only [SS, qx13, forall_const, vconv, vun, Int.reduceEq, Int.reduceNeg, Nat.reduceGT, Nat.reduceLT, Nat.reduceLeDiff, Nat.reduceEqDiff, ↓reduceIte, reduceCtorEq, Int.reduceToNat, Int.reduceLE, Int.reduceLT, Nat.reduceAdd, Nat.reduceMul, ff_131]
  refine AtCall.byX (prescale_gives e p _ (by omega) (by omega) (by omega) (hset_at _ _ _) (by rw [hset_ne _ _ _ hgn]; exact h4)) ?_
  rintro v n2 H2 kx ⟨rfl, hy⟩
  rw [hlp, Int.neg_neg, ← hhi', ← hlo'] at hy
  simp (config := { maxSteps := 1000000 }) only [SS, qx13, forall_const, vconv, vun, Int.reduceEq, Int.reduceNeg, Nat.reduceGT, Nat.reduceLT, Nat.reduceLeDiff, Nat.reduceEqDiff, ↓reduceIte, reduceCtorEq, Int.reduceToNat, Int.reduceLE, Int.reduceLT, Nat.reduceAdd, Nat.reduceMul, ff_131]
  repeat (first | apply WK.seq | apply WK.block | apply WK.skipSeq | apply WK.skipBlock | apply WK.retSeq | apply WK.retBlock | apply WK.exitSeq | apply WK.exitHere | refine WK.exitOn rfl ?_ | ((first | (refine WK.rgn ?_ ?_; kernel_rfl) | refine AtCall.now ?_); simp (config := { maxSteps := 1000000 }) only [SS, qx13, forall_const, vconv, vun, Int.reduceEq, Int.reduceNeg, Nat.reduceGT, Nat.reduceLT, Nat.reduceLeDiff, Nat.reduceEqDiff, ↓reduceIte, reduceCtorEq, Int.reduceToNat, Int.reduceLE, Int.reduceLT, Nat.reduceAdd, Nat.reduceMul, ff_131]) | (refine WK.condT ?_ ?_; focus (simp only [ev_tmp, ev_const, fset_apply, Nat.reduceEqDiff, ↓reduceIte, decide_true, decide_false, ff_131]; done)) | (refine WK.condF ?_ ?_; focus (simp only [ev_tmp, ev_const, fset_apply, Nat.reduceEqDiff, ↓reduceIte, decide_true, decide_false, ff_131]; done)))
  refine AtCall.by (uscale_gives mn hi lo sh hmn hhi hlo hsh _ _ hy) ?_
  rintro v n3 H3 hk3 ⟨rfl, rfl, rfl⟩
  simp (config := { maxSteps := 1000000 }) only [SS, qx13, forall_const, vconv, vun, Int.reduceEq, Int.reduceNeg, Nat.reduceGT, Nat.reduceLT, Nat.reduceLeDiff, Nat.reduceEqDiff, ↓reduceIte, reduceCtorEq, Int.reduceToNat, Int.reduceLE, Int.reduceLT, Nat.reduceAdd, Nat.reduceMul, hU1, ff_131]
  refine AtCall.by (nudge_up _ odd (by omega) _ _) ?_
  rintro v n3 H3 hk3 ⟨rfl, rfl, rfl⟩
  simp (config := { maxSteps := 1000000 }) only [SS, qx13, forall_const, vconv, vun, Int.reduceEq, Int.reduceNeg, Nat.reduceGT, Nat.reduceLT, Nat.reduceLeDiff, Nat.reduceEqDiff, ↓reduceIte, reduceCtorEq, Int.reduceToNat, Int.reduceLE, Int.reduceLT, Nat.reduceAdd, Nat.reduceMul, ff_131]
  refine AtCall.by (ceil_gives _ (by omega) _ _) ?_
  rintro v n3 H3 hk3 ⟨rfl, rfl, rfl⟩
  simp (config := { maxSteps := 1000000 }) only [SS, qx13, forall_const, vconv, vun, Int.reduceEq, Int.reduceNeg, Nat.reduceGT, Nat.reduceLT, Nat.reduceLeDiff, Nat.reduceEqDiff, ↓reduceIte, reduceCtorEq, Int.reduceToNat, Int.reduceLE, Int.reduceLT, Nat.reduceAdd, Nat.reduceMul, ff_131]
  repeat (first | apply WK.seq | apply WK.block | apply WK.skipSeq | apply WK.skipBlock | apply WK.retSeq | apply WK.retBlock | apply WK.exitSeq | apply WK.exitHere | refine WK.exitOn rfl ?_ | ((first | (refine WK.rgn ?_ ?_; kernel_rfl) | refine AtCall.now ?_); simp (config := { maxSteps := 1000000 }) only [SS, qx13, forall_const, vconv, vun, Int.reduceEq, Int.reduceNeg, Nat.reduceGT, Nat.reduceLT, Nat.reduceLeDiff, Nat.reduceEqDiff, ↓reduceIte, reduceCtorEq, Int.reduceToNat, Int.reduceLE, Int.reduceLT, Nat.reduceAdd, Nat.reduceMul, ff_131]) | (refine WK.condT ?_ ?_; focus (simp only [ev_tmp, ev_const, fset_apply, Nat.reduceEqDiff, ↓reduceIte, decide_true, decide_false, ff_131]; done)) | (refine WK.condF ?_ ?_; focus (simp only [ev_tmp, ev_const, fset_apply, Nat.reduceEqDiff, ↓reduceIte, decide_true, decide_false, ff_131]; done)))
  refine AtCall.by (uscale_gives mx hi lo sh hmx hhi hlo hsh _ _ hy) ?_
  rintro v n3 H3 hk3 ⟨rfl, rfl, rfl⟩
  simp (config := { maxSteps := 1000000 }) only [SS, qx13, forall_const, vconv, vun, Int.reduceEq, Int.reduceNeg, Nat.reduceGT, Nat.reduceLT, Nat.reduceLeDiff, Nat.reduceEqDiff, ↓reduceIte, reduceCtorEq, Int.reduceToNat, Int.reduceLE, Int.reduceLT, Nat.reduceAdd, Nat.reduceMul, ngo, hU2, ff_131]
  refine AtCall.by (nudge_down _ odd (by omega) hox _ _) ?_
  rintro v n3 H3 hk3 ⟨rfl, rfl, rfl⟩
  simp (config := { maxSteps := 1000000 }) only [SS, qx13, forall_const, vconv, vun, Int.reduceEq, Int.reduceNeg, Nat.reduceGT, Nat.reduceLT, Nat.reduceLeDiff, Nat.reduceEqDiff, ↓reduceIte, reduceCtorEq, Int.reduceToNat, Int.reduceLE, Int.reduceLT, Nat.reduceAdd, Nat.reduceMul, ff_131]
  refine AtCall.by (floor_gives _ (by omega) _ _) ?_
  rintro v n3 H3 hk3 ⟨rfl, rfl, rfl⟩
  simp (config := { maxSteps := 1000000 }) only [SS, qx13, forall_const, vconv, vun, Int.reduceEq, Int.reduceNeg, Nat.reduceGT, Nat.reduceLT, Nat.reduceLeDiff, Nat.reduceEqDiff, ↓reduceIte, reduceCtorEq, Int.reduceToNat, Int.reduceLE, Int.reduceLT, Nat.reduceAdd, Nat.reduceMul, q1, ff_131]
  repeat (first | apply WK.seq | apply WK.block | apply WK.skipSeq | apply WK.skipBlock | apply WK.retSeq | apply WK.retBlock | apply WK.exitSeq | apply WK.exitHere | refine WK.exitOn rfl ?_ | ((first | (refine WK.rgn ?_ ?_; kernel_rfl) | refine AtCall.now ?_); simp (config := { maxSteps := 1000000 }) only [SS, qx13, forall_const, vconv, vun, Int.reduceEq, Int.reduceNeg, Nat.reduceGT, Nat.reduceLT, Nat.reduceLeDiff, Nat.reduceEqDiff, ↓reduceIte, reduceCtorEq, Int.reduceToNat, Int.reduceLE, Int.reduceLT, Nat.reduceAdd, Nat.reduceMul, q1, q2, q3, q4, hfirst, ff_131]) | (refine WK.condT ?_ ?_; focus (simp only [ev_tmp, ev_const, fset_apply, Nat.reduceEqDiff, ↓reduceIte, decide_true, decide_false, q1, q2, q3, q4, hfirst, ff_131]; done)) | (refine WK.condF ?_ ?_; focus (simp only [ev_tmp, ev_const, fset_apply, Nat.reduceEqDiff, ↓reduceIte, decide_true, decide_false, q1, q2, q3, q4, hfirst, ff_131]; done)))
  (first | refine WK.retNil ⟨Or.inr rfl, _, rfl, ?_, ?_⟩ | refine WK.skipNil ⟨Or.inl rfl, _, rfl, ?_, ?_⟩)
  ·intro z hz
   exact (kx.keep z (by omega) (by omega)).trans (hset_ne _ _ _ (by omega))
  ·simp only [packed, fset_apply, Nat.reduceEqDiff, ↓reduceIte, List.getD_cons_zero, List.getD_cons_succ, ff_131]
 ·obtain ⟨hpe, hmne⟩ := hnot hpw
  have mn1 : IntKind.u64.wrap ((m : Int) - 1024) = (mn : Int) := by rw [wrap_u64]; omega
  have hpw' : ((m : Int) = 9223372036854775808) = False := by simp only [eq_iff_iff, iff_false]; omega
  repeat (first | apply WK.seq | apply WK.block | apply WK.skipSeq | apply WK.skipBlock | apply WK.retSeq | apply WK.retBlock | apply WK.exitSeq | apply WK.exitHere | refine WK.exitOn rfl ?_ | ((first | (refine WK.rgn ?_ ?_; kernel_rfl) | refine AtCall.now ?_); simp (config := { maxSteps := 1000000 }) only [SS, qx13, forall_const, vconv, vun, Int.reduceEq, Int.reduceNeg, Nat.reduceGT, Nat.reduceLT, Nat.reduceLeDiff, Nat.reduceEqDiff, ↓reduceIte, reduceCtorEq, Int.reduceToNat, Int.reduceLE, Int.reduceLT, Nat.reduceAdd, Nat.reduceMul, hpw', hgt, hge, w1, w64, w63, ff_131]) | (refine WK.condT ?_ ?_; focus (simp only [ev_tmp, ev_const, fset_apply, Nat.reduceEqDiff, ↓reduceIte, decide_true, decide_false, hpw', hgt, hge, w1, w64, w63, ff_131]; done)) | (refine WK.condF ?_ ?_; focus (simp only [ev_tmp, ev_const, fset_apply, Nat.reduceEqDiff, ↓reduceIte, decide_true, decide_false, hpw', hgt, hge, w1, w64, w63, ff_131]; done)))
  refine AtCall.by (log10_gives (e + 11) (by omega) _ _) ?_
  rintro v n' H' hk ⟨rfl, rfl, rfl⟩
  have hps : IntKind.i64.wrap (0 - ((e + 11) * 78913).fdiv (2 ^ 18)) = p := by rw [Int.zero_sub, hpe]; exact wrap_in (by omega) (by omega)
  simp (config := { maxSteps := 1000000 }) only [SS, qx13, forall_const, vconv, vun, Int.reduceEq, Int.reduceNeg, Nat.reduceGT, Nat.reduceLT, Nat.reduceLeDiff, Nat.reduceEqDiff, ↓reduceIte, reduceCtorEq, Int.reduceToNat, Int.reduceLE, Int.reduceLT, Nat.reduceAdd, Nat.reduceMul, hps, ff_131]
  repeat (first | apply WK.seq | apply WK.block | apply WK.skipSeq | apply WK.skipBlock | apply WK.retSeq | apply WK.retBlock | apply WK.exitSeq | apply WK.exitHere | refine WK.exitOn rfl ?_ | ((first | (refine WK.rgn ?_ ?_; kernel_rfl) | refine AtCall.now ?_); simp (config := { maxSteps := 1000000 }) only [SS, qx13, forall_const, vconv, vun, Int.reduceEq, Int.reduceNeg, Nat.reduceGT, Nat.reduceLT, Nat.reduceLeDiff, Nat.reduceEqDiff, ↓reduceIte, reduceCtorEq, Int.reduceToNat, Int.reduceLE, Int.reduceLT, Nat.reduceAdd, Nat.reduceMul, hps, w11a, w11b, min9, min10, min11, o9, o10, mn1, mx1, od1, od2, nb9, nb10, nb11, vcells, Value.cells, ff_131]) | (refine WK.condT ?_ ?_; focus (simp only [ev_tmp, ev_const, fset_apply, Nat.reduceEqDiff, ↓reduceIte, decide_true, decide_false, hps, w11a, w11b, min9, min10, min11, o9, o10, mn1, mx1, od1, od2, nb9, nb10, nb11, vcells, Value.cells, ff_131]; done)) | (refine WK.condF ?_ ?_; focus (simp only [ev_tmp, ev_const, fset_apply, Nat.reduceEqDiff, ↓reduceIte, decide_true, decide_false, hps, w11a, w11b, min9, min10, min11, o9, o10, mn1, mx1, od1, od2, nb9, nb10, nb11, vcells, Value.cells, ff_131]; done)))
  refine AtCall.by (log2_gives p (by omega) _ _) ?_
  rintro v n' H' hk ⟨rfl, rfl, rfl⟩
  simp (config := { maxSteps := 1000000 }) only [SS, qx13, forall_const, vconv, vun, Int.reduceEq, Int.reduceNeg, Nat.reduceGT, Nat.reduceLT, Nat.reduceLeDiff, Nat.reduceEqDiff, ↓reduceIte, reduceCtorEq, Int.reduceToNat, Int.reduceLE, Int.reduceLT, Nat.reduceAdd, Nat.reduceMul, ff_131]
  refine AtCall.byX (prescale_gives e p _ (by omega) (by omega) (by omega) (hset_at _ _ _) (by rw [hset_ne _ _ _ hgn]; exact h4)) ?_
  rintro v n2 H2 kx ⟨rfl, hy⟩
  rw [hlp, Int.neg_neg, ← hhi', ← hlo'] at hy
  simp (config := { maxSteps := 1000000 }) only [SS, qx13, forall_const, vconv, vun, Int.reduceEq, Int.reduceNeg, Nat.reduceGT, Nat.reduceLT, Nat.reduceLeDiff, Nat.reduceEqDiff, ↓reduceIte, reduceCtorEq, Int.reduceToNat, Int.reduceLE, Int.reduceLT, Nat.reduceAdd, Nat.reduceMul, ff_131]
  repeat (first | apply WK.seq | apply WK.block | apply WK.skipSeq | apply WK.skipBlock | apply WK.retSeq | apply WK.retBlock | apply WK.exitSeq | apply WK.exitHere | refine WK.exitOn rfl ?_ | ((first | (refine WK.rgn ?_ ?_; kernel_rfl) | refine AtCall.now ?_); simp (config := { maxSteps := 1000000 }) only [SS, qx13, forall_const, vconv, vun, Int.reduceEq, Int.reduceNeg, Nat.reduceGT, Nat.reduceLT, Nat.reduceLeDiff, Nat.reduceEqDiff, ↓reduceIte, reduceCtorEq, Int.reduceToNat, Int.reduceLE, Int.reduceLT, Nat.reduceAdd, Nat.reduceMul, ff_131]) | (refine WK.condT ?_ ?_; focus (simp only [ev_tmp, ev_const, fset_apply, Nat.reduceEqDiff, ↓reduceIte, decide_true, decide_false, ff_131]; done)) | (refine WK.condF ?_ ?_; focus (simp only [ev_tmp, ev_const, fset_apply, Nat.reduceEqDiff, ↓reduceIte, decide_true, decide_false, ff_131]; done)))
  refine AtCall.by (uscale_gives mn hi lo sh hmn hhi hlo hsh _ _ hy) ?_
  rintro v n3 H3 hk3 ⟨rfl, rfl, rfl⟩
  simp (config := { maxSteps := 1000000 }) only [SS, qx13, forall_const, vconv, vun, Int.reduceEq, Int.reduceNeg, Nat.reduceGT, Nat.reduceLT, Nat.reduceLeDiff, Nat.reduceEqDiff, ↓reduceIte, reduceCtorEq, Int.reduceToNat, Int.reduceLE, Int.reduceLT, Nat.reduceAdd, Nat.reduceMul, hU1, ff_131]
  refine AtCall.by (nudge_up _ odd (by omega) _ _) ?_
  rintro v n3 H3 hk3 ⟨rfl, rfl, rfl⟩
  simp (config := { maxSteps := 1000000 }) only [SS, qx13, forall_const, vconv, vun, Int.reduceEq, Int.reduceNeg, Nat.reduceGT, Nat.reduceLT, Nat.reduceLeDiff, Nat.reduceEqDiff, ↓reduceIte, reduceCtorEq, Int.reduceToNat, Int.reduceLE, Int.reduceLT, Nat.reduceAdd, Nat.reduceMul, ff_131]
  refine AtCall.by (ceil_gives _ (by omega) _ _) ?_
  rintro v n3 H3 hk3 ⟨rfl, rfl, rfl⟩
  simp (config := { maxSteps := 1000000 }) only [SS, qx13, forall_const, vconv, vun, Int.reduceEq, Int.reduceNeg, Nat.reduceGT, Nat.reduceLT, Nat.reduceLeDiff, Nat.reduceEqDiff, ↓reduceIte, reduceCtorEq, Int.reduceToNat, Int.reduceLE, Int.reduceLT, Nat.reduceAdd, Nat.reduceMul, ff_131]
  repeat (first | apply WK.seq | apply WK.block | apply WK.skipSeq | apply WK.skipBlock | apply WK.retSeq | apply WK.retBlock | apply WK.exitSeq | apply WK.exitHere | refine WK.exitOn rfl ?_ | ((first | (refine WK.rgn ?_ ?_; kernel_rfl) | refine AtCall.now ?_); simp (config := { maxSteps := 1000000 }) only [SS, qx13, forall_const, vconv, vun, Int.reduceEq, Int.reduceNeg, Nat.reduceGT, Nat.reduceLT, Nat.reduceLeDiff, Nat.reduceEqDiff, ↓reduceIte, reduceCtorEq, Int.reduceToNat, Int.reduceLE, Int.reduceLT, Nat.reduceAdd, Nat.reduceMul, ff_131]) | (refine WK.condT ?_ ?_; focus (simp only [ev_tmp, ev_const, fset_apply, Nat.reduceEqDiff, ↓reduceIte, decide_true, decide_false, ff_131]; done)) | (refine WK.condF ?_ ?_; focus (simp only [ev_tmp, ev_const, fset_apply, Nat.reduceEqDiff, ↓reduceIte, decide_true, decide_false, ff_131]; done)))
  refine AtCall.by (uscale_gives mx hi lo sh hmx hhi hlo hsh _ _ hy) ?_
  rintro v n3 H3 hk3 ⟨rfl, rfl, rfl⟩
  simp (config := { maxSteps := 1000000 }) only [SS, qx13, forall_const, vconv, vun, Int.reduceEq, Int.reduceNeg, Nat.reduceGT, Nat.reduceLT, Nat.reduceLeDiff, Nat.reduceEqDiff, ↓reduceIte, reduceCtorEq, Int.reduceToNat, Int.reduceLE, Int.reduceLT, Nat.reduceAdd, Nat.reduceMul, ngo, hU2, ff_131]
  refine AtCall.by (nudge_down _ odd (by omega) hox _ _) ?_
  rintro v n3 H3 hk3 ⟨rfl, rfl, rfl⟩
  simp (config := { maxSteps := 1000000 }) only [SS, qx13, forall_const, vconv, vun, Int.reduceEq, Int.reduceNeg, Nat.reduceGT, Nat.reduceLT, Nat.reduceLeDiff, Nat.reduceEqDiff, ↓reduceIte, reduceCtorEq, Int.reduceToNat, Int.reduceLE, Int.reduceLT, Nat.reduceAdd, Nat.reduceMul, ff_131]
  refine AtCall.by (floor_gives _ (by omega) _ _) ?_
  rintro v n3 H3 hk3 ⟨rfl, rfl, rfl⟩
  simp (config := { maxSteps := 1000000 }) only [SS, qx13, forall_const, vconv, vun, Int.reduceEq, Int.reduceNeg, Nat.reduceGT, Nat.reduceLT, Nat.reduceLeDiff, Nat.reduceEqDiff, ↓reduceIte, reduceCtorEq, Int.reduceToNat, Int.reduceLE, Int.reduceLT, Nat.reduceAdd, Nat.reduceMul, q1, ff_131]
  repeat (first | apply WK.seq | apply WK.block | apply WK.skipSeq | apply WK.skipBlock | apply WK.retSeq | apply WK.retBlock | apply WK.exitSeq | apply WK.exitHere | refine WK.exitOn rfl ?_ | ((first | (refine WK.rgn ?_ ?_; kernel_rfl) | refine AtCall.now ?_); simp (config := { maxSteps := 1000000 }) only [SS, qx13, forall_const, vconv, vun, Int.reduceEq, Int.reduceNeg, Nat.reduceGT, Nat.reduceLT, Nat.reduceLeDiff, Nat.reduceEqDiff, ↓reduceIte, reduceCtorEq, Int.reduceToNat, Int.reduceLE, Int.reduceLT, Nat.reduceAdd, Nat.reduceMul, q1, q2, q3, q4, hfirst, ff_131]) | (refine WK.condT ?_ ?_; focus (simp only [ev_tmp, ev_const, fset_apply, Nat.reduceEqDiff, ↓reduceIte, decide_true, decide_false, q1, q2, q3, q4, hfirst, ff_131]; done)) | (refine WK.condF ?_ ?_; focus (simp only [ev_tmp, ev_const, fset_apply, Nat.reduceEqDiff, ↓reduceIte, decide_true, decide_false, q1, q2, q3, q4, hfirst, ff_131]; done)))
  (first | refine WK.retNil ⟨Or.inr rfl, _, rfl, ?_, ?_⟩ | refine WK.skipNil ⟨Or.inl rfl, _, rfl, ?_, ?_⟩)
  ·intro z hz
   exact (kx.keep z (by omega) (by omega)).trans (hset_ne _ _ _ (by omega))
  ·simp only [packed, fset_apply, Nat.reduceEqDiff, ↓reduceIte, List.getD_cons_zero, List.getD_cons_succ, ff_131]
end Go.Proofs.YtihjaobjhmmboaaGreatDoor

namespace Go.AM
open Ieee
set_option maxRecDepth 20000
theorem cut_near (n drop : Nat) (hd : drop ≤ n.log2 + 2) : 2 * (Toward.cut .even false n drop * 2 ^ drop) ≤ 2 * n + 2 ^ drop ∧ 2 * n ≤ 2 * (Toward.cut .even false n drop * 2 ^ drop) + 2 ^ drop := by
 unfold Toward.cut
 simp only
 rw [Nat.min_eq_left hd, Nat.shiftLeft_eq, Nat.one_mul]
 have hG := Nat.two_pow_pos drop
 generalize 2 ^ drop = G at *
 have h1 := Nat.div_add_mod n G
 have h2 := Nat.mod_lt n hG
 generalize n / G = low at *
 generalize n % G = rest at *
 rw [Nat.add_mul, Nat.mul_comm low G]
 generalize G * low = X at *
 cases hb : (decide (G < 2 * rest) || (G == 2 * rest) && low % 2 == 1)
 ·simp only [Bool.toNat_false, Nat.zero_mul, Nat.add_zero]
  simp at hb
  omega
 ·simp only [Bool.toNat_true, Nat.one_mul]
  have : G ≤ 2 * rest := by simp at hb; omega
  omega
theorem cut_zero (n : Nat) : Toward.cut .even false n 0 = n := by
 unfold Toward.cut
 simp [Nat.mod_one]
def wd (M : Nat) (e : Int) : Nat := (e + 1074).toNat * 2 ^ 52 + M
theorem read_wd {M : Nat} {e : Int} (h1 : 2 ^ 52 ≤ M) (h2 : M < 2 ^ 53) (h3 : -1074 ≤ e) (h4 : e ≤ 900) : Format.read double (wd M e) = .number false M e := by
 have hsw : Format.signWeight double = 2 ^ 63 := rfl
 have hbin : Format.binade double = 2 ^ 52 := rfl
 have hinf : Format.infRung double = 2047 * 2 ^ 52 := rfl
 have hlp : Format.leastPlace double = -1074 := rfl
 obtain ⟨E, hE⟩ : ∃ E, (e + 1074).toNat = E := ⟨_, rfl⟩
 have hE1 : E ≤ 1974 := by omega
 unfold wd Format.read
 rw [hE]
 have hlt : E * 2 ^ 52 + M < 2 ^ 63 := by omega
 have a1 : ((E * 2 ^ 52 + M) / 2 ^ 63 % 2 == 1) = false := by rw [Nat.div_eq_of_lt hlt]; rfl
 have a2 : (E * 2 ^ 52 + M) % 2 ^ 63 = E * 2 ^ 52 + M := Nat.mod_eq_of_lt hlt
 simp only [hsw, hbin, hinf, hlp, a1, a2]
 rw [if_neg (by omega), if_pos (by omega)]
 congr 1 <;> omega
theorem write_norm (mag : Nat) (place : Int) (h0 : 0 < mag) (hp : -1000 ≤ place) (hq : place ≤ 500) (hl : 52 ≤ mag.log2) (hl2 : mag.log2 ≤ 60) :
  ∃ M e, Format.write double (.number false mag place) = wd M e ∧ 2 ^ 52 ≤ M ∧ M < 2 ^ 53 ∧ (e = place + (mag.log2 - 52 : Nat) ∨ e = place + (mag.log2 - 52 : Nat) + 1) ∧
   ∃ kept, kept = Toward.cut .even false mag (mag.log2 - 52) ∧ (M = kept ∧ e = place + (mag.log2 - 52 : Nat) ∨ M = 2 ^ 52 ∧ kept = 2 ^ 53 ∧ e = place + (mag.log2 - 52 : Nat) + 1) := by
 have hlp : Format.leastPlace double = -1074 := rfl
 have hfb : ((Format.fractionBits double : Nat) : Int) = 52 := rfl
 have hbin : Format.binade double = 2 ^ 52 := rfl
 have hinf : Format.infRung double = 2047 * 2 ^ 52 := rfl
 obtain ⟨L, hL⟩ : ∃ L, mag.log2 = L := ⟨_, rfl⟩
 have hlo : 2 ^ L ≤ mag := by rw [← hL]; exact Nat.log2_self_le (by omega)
 have hhi : mag < 2 ^ (L + 1) := by rw [← hL]; exact Nat.lt_log2_self
 rw [hL] at hl hl2 ⊢
 have e1 : (max (place + (L : Int) - 52) (-1074)) = place + (L - 52 : Nat) := by omega
 have e2 : (place - (place + ((L - 52 : Nat) : Int))).toNat = 0 := by omega
 have e3 : (place + ((L - 52 : Nat) : Int) - place).toNat = L - 52 := by omega
 obtain ⟨kept, hk⟩ : ∃ kept, Toward.cut .even false mag (L - 52) = kept := ⟨_, rfl⟩
 have hkn := cut_near mag (L - 52) (by omega)
 rw [hk] at hkn
 have hG : 2 ^ L = 2 ^ (L - 52) * 2 ^ 52 := by rw [← Nat.pow_add]; congr 1; omega
 have hG2 : 2 ^ (L + 1) = 2 ^ (L - 52) * 2 ^ 53 := by rw [← Nat.pow_add]; congr 1; omega
 have hGp := Nat.two_pow_pos (L - 52)
 have hkL : 2 ^ 52 ≤ kept := by
  refine Decidable.byContradiction fun hn => ?_
  have : (kept + 1) * 2 ^ (L - 52) ≤ 2 ^ 52 * 2 ^ (L - 52) := Nat.mul_le_mul_right _ (by omega)
  rw [Nat.add_mul, Nat.one_mul, Nat.mul_comm (2 ^ 52)] at this
  have hc := hkn.2
  generalize kept * 2 ^ (L - 52) = X at *
  omega
 have hkU : kept ≤ 2 ^ 53 := by
  refine Decidable.byContradiction fun hn => ?_
  have : (2 ^ 53 + 1) * 2 ^ (L - 52) ≤ kept * 2 ^ (L - 52) := Nat.mul_le_mul_right _ (by omega)
  rw [Nat.add_mul, Nat.one_mul, Nat.mul_comm (2 ^ 53)] at this
  have hc := hkn.1
  generalize kept * 2 ^ (L - 52) = X at *
  omega
 have hw : Format.write double (.number false mag place) = (place + ((L - 52 : Nat) : Int) + 1074).toNat * 2 ^ 52 + kept := by
  unfold Format.write Format.nearest
  simp only
  rw [if_neg (by omega), hlp, hfb, hbin, hinf, hL, e1, e2, e3, Nat.shiftLeft_zero, hk]
  unfold Format.word
  simp only [Bool.false_eq_true, if_false]
  have hsub : place + ((L - 52 : Nat) : Int) - -1074 = place + ((L - 52 : Nat) : Int) + 1074 := by omega
  rw [Nat.min_eq_left, hsub]
  ·have : (place + ((L - 52 : Nat) : Int) - -1074).toNat ≤ 1600 := by omega
   generalize (place + ((L - 52 : Nat) : Int) - -1074).toNat = X at *
   omega
 by_cases h53 : kept = 2 ^ 53
 ·refine ⟨2 ^ 52, place + (L - 52 : Nat) + 1, ?_, by omega, by omega, .inr rfl, kept, hk.symm, .inr ⟨rfl, h53, rfl⟩⟩
  rw [hw, h53]
  unfold wd
  have : (place + ((L - 52 : Nat) : Int) + 1 + 1074).toNat = (place + ((L - 52 : Nat) : Int) + 1074).toNat + 1 := by omega
  generalize (place + ((L - 52 : Nat) : Int) + 1 + 1074).toNat = X at *
  generalize (place + ((L - 52 : Nat) : Int) + 1074).toNat = Y at *
  omega
 ·exact ⟨kept, place + (L - 52 : Nat), hw, hkL, by omega, .inl rfl, kept, hk.symm, .inl ⟨rfl, rfl⟩⟩
theorem write_int (n : Nat) (h0 : 0 < n) (hl : n.log2 ≤ 52) :
  Format.nearest double false n 0 = wd (n * 2 ^ (52 - n.log2)) ((n.log2 : Int) - 52) ∧ 2 ^ 52 ≤ n * 2 ^ (52 - n.log2) ∧ n * 2 ^ (52 - n.log2) < 2 ^ 53 := by
 have hlp : Format.leastPlace double = -1074 := rfl
 have hfb : ((Format.fractionBits double : Nat) : Int) = 52 := rfl
 have hbin : Format.binade double = 2 ^ 52 := rfl
 have hinf : Format.infRung double = 2047 * 2 ^ 52 := rfl
 obtain ⟨L, hL⟩ : ∃ L, n.log2 = L := ⟨_, rfl⟩
 have hlo : 2 ^ L ≤ n := by rw [← hL]; exact Nat.log2_self_le (by omega)
 have hhi : n < 2 ^ (L + 1) := by rw [← hL]; exact Nat.lt_log2_self
 rw [hL] at hl ⊢
 have b1 : 2 ^ 52 ≤ n * 2 ^ (52 - L) := by
  have := Nat.mul_le_mul_right (2 ^ (52 - L)) hlo
  rwa [← Nat.pow_add, show L + (52 - L) = 52 by omega] at this
 have b2 : n * 2 ^ (52 - L) < 2 ^ 53 := by
  have := Nat.mul_lt_mul_of_pos_right hhi (Nat.two_pow_pos (52 - L))
  rwa [← Nat.pow_add, show L + 1 + (52 - L) = 53 by omega] at this
 refine ⟨?_, b1, b2⟩
 unfold Format.nearest
 simp only
 have e1 : (max ((0 : Int) + (L : Int) - 52) (-1074)) = (L : Int) - 52 := by omega
 have e2 : ((0 : Int) - ((L : Int) - 52)).toNat = 52 - L := by omega
 have e3 : ((L : Int) - 52 - 0).toNat = 0 := by omega
 rw [if_neg (by omega), hlp, hfb, hbin, hinf, hL, e1, e2, e3, cut_zero, Nat.shiftLeft_eq]
 unfold Format.word wd
 simp only [Bool.false_eq_true, if_false]
 rw [show (L : Int) - 52 - -1074 = (L : Int) - 52 + 1074 by omega]
 refine Nat.min_eq_left ?_
 have : ((L : Int) - 52 + 1074).toNat ≤ 1074 := by omega
 generalize ((L : Int) - 52 + 1074).toNat = X at *
 generalize n * 2 ^ (52 - L) = Y at *
 omega
theorem div_near (n d : Nat) (hn : 0 < n) (hd : 0 < d) (hln : n.log2 ≤ 52) (hld : d.log2 ≤ 52) :
  ∃ M t : Nat, ∃ e : Int, Format.div double (Format.nearest double false n 0) (Format.nearest double false d 0) = some (wd M e) ∧ 2 ^ 52 ≤ M ∧ M < 2 ^ 53 ∧
   (n.log2 : Int) - d.log2 - 53 ≤ e ∧ e ≤ (n.log2 : Int) - d.log2 - 51 ∧ (e ≤ 0 → -e = (t : Int) → n * 2 ^ (t + 1) ≤ (2 * M + 1) * d ∧ (if M = 2 ^ 52 then (4 * M - 1) * d ≤ n * 2 ^ (t + 2) else (2 * M - 1) * d ≤ n * 2 ^ (t + 1))) ∧ (e ≤ 0 → -e = (t : Int)) := by
 obtain ⟨wn, an1, an2⟩ := write_int n hn hln
 obtain ⟨wdd, ad1, ad2⟩ := write_int d hd hld
 obtain ⟨Ln, hLn⟩ : ∃ L, n.log2 = L := ⟨_, rfl⟩
 obtain ⟨Ld, hLd⟩ : ∃ L, d.log2 = L := ⟨_, rfl⟩
 rw [hLn] at wn an1 an2 hln ⊢
 rw [hLd] at wdd ad1 ad2 hld ⊢
 generalize ha : n * 2 ^ (52 - Ln) = a at *
 generalize hb : d * 2 ^ (52 - Ld) = b at *
 have rn := read_wd (M := a) (e := (Ln : Int) - 52) an1 an2 (by omega) (by omega)
 have rd := read_wd (M := b) (e := (Ld : Int) - 52) ad1 ad2 (by omega) (by omega)
 have la : a.log2 = 52 := (Nat.log2_eq_iff (by omega)).2 ⟨an1, an2⟩
 have lb : b.log2 = 52 := (Nat.log2_eq_iff (by omega)).2 ⟨ad1, ad2⟩
 have hfb : Format.fractionBits double = 52 := rfl
 obtain ⟨Q, hQ⟩ : ∃ Q, a * 2 ^ 54 / b = Q := ⟨_, rfl⟩
 obtain ⟨r, hr⟩ : ∃ r, a * 2 ^ 54 % b = r := ⟨_, rfl⟩
 have hdm := Nat.div_add_mod (a * 2 ^ 54) b
 have hrb := Nat.mod_lt (a * 2 ^ 54) (show 0 < b by omega)
 rw [hQ, hr] at hdm
 rw [hr] at hrb
 obtain ⟨mag, hmag⟩ : ∃ mag, 2 * Q + (r != 0).toNat = mag := ⟨_, rfl⟩
 have hdiv : Format.div double (Format.nearest double false n 0) (Format.nearest double false d 0) = some (Format.write double (.number false mag ((Ln : Int) - Ld - 55))) := by
  unfold Format.div
  rw [wn, wdd, rn, rd, hfb]
  unfold Datum.quotient
  simp only [la, lb]
  rw [if_neg (by omega), Nat.shiftLeft_eq]
  simp only [show 52 + 2 + 52 - 52 = 54 from rfl, hQ, hr, hmag]
  rw [Option.map_some]
  congr 3
  omega
 have hQ1 : 2 ^ 53 ≤ Q := by
  rw [← hQ]; refine (Nat.le_div_iff_mul_le (by omega)).2 ?_
  clear rn rd wn wdd hdiv
  simp only [Nat.reducePow] at *
  omega
 have hQ2 : Q < 2 ^ 55 := by
  rw [← hQ]; refine Nat.div_lt_of_lt_mul ?_
  clear rn rd wn wdd hdiv
  simp only [Nat.reducePow] at *
  omega
 have hst : (r != 0).toNat ≤ 1 := by cases (r != 0) <;> simp
 have hm1 : 2 ^ 54 ≤ mag := by omega
 have hm2 : mag < 2 ^ 56 := by omega
 have hml : 54 ≤ mag.log2 ∧ mag.log2 ≤ 55 := by
  constructor
  ·exact (Nat.le_log2 (by omega)).2 hm1
  ·have := (Nat.log2_lt (by omega)).2 hm2; omega
 have low : ∀ E : Nat, E % 2 = 0 → E ≤ mag → E * b ≤ 2 * (a * 2 ^ 54) := by
  intro E h2 hE
  have : E ≤ 2 * Q := by omega
  have := Nat.mul_le_mul_right b this
  rw [← hdm, Nat.mul_add, Nat.mul_comm b Q, ← Nat.mul_assoc]
  omega
 have high : ∀ E : Nat, E % 2 = 0 → mag ≤ E → 2 * (a * 2 ^ 54) ≤ E * b := by
  intro E h2 hE
  rw [← hdm, Nat.mul_add, Nat.mul_comm b Q, ← Nat.mul_assoc]
  by_cases h0 : r = 0
  ·rw [h0]
   have : 2 * Q ≤ E := by omega
   have := Nat.mul_le_mul_right b this
   omega
  ·have h1 : (r != 0).toNat = 1 := by simp [h0]
   have : 2 * Q + 2 ≤ E := by omega
   have := Nat.mul_le_mul_right b this
   rw [Nat.add_mul] at this
   omega
 obtain ⟨M, e, hw, hM1, hM2, he, kept, hk, hke⟩ := write_norm mag ((Ln : Int) - Ld - 55) (by omega) (by omega) (by omega) (by omega) (by omega)
 obtain ⟨dr, hdr⟩ : ∃ dr, mag.log2 - 52 = dr + 1 := ⟨mag.log2 - 53, by omega⟩
 have hdr1 : 1 ≤ dr ∧ dr ≤ 2 := by omega
 rw [hdr] at hk he hke
 have hkn := cut_near mag (dr + 1) (by omega)
 rw [← hk] at hkn
 rw [Nat.pow_succ] at hkn
 have hmlo : 2 ^ 52 * 2 ^ (dr + 1) ≤ mag := by
  rw [← Nat.pow_add, show 52 + (dr + 1) = mag.log2 by omega]; exact Nat.log2_self_le (by omega)
 obtain ⟨g, hg⟩ : ∃ g, 2 ^ dr = 2 * g := by
  refine ⟨2 ^ (dr - 1), ?_⟩
  rw [← Nat.pow_succ']; congr 1; omega
 have up : 2 * (a * 2 ^ 54) ≤ (2 * kept + 1) * 2 ^ dr * b := by
  refine high _ ?_ ?_
  ·rw [hg, ← Nat.mul_assoc, Nat.mul_comm _ 2, Nat.mul_assoc, Nat.mul_mod_right]
  ·have h := hkn.2
   rw [show kept * (2 ^ dr * 2) = 2 * (kept * 2 ^ dr) by rw [Nat.mul_comm (2 ^ dr) 2, ← Nat.mul_assoc, Nat.mul_comm kept 2, Nat.mul_assoc]] at h
   rw [Nat.add_mul, Nat.one_mul, Nat.mul_assoc]
   generalize kept * 2 ^ dr = X at *
   omega
 have dn : (2 * kept - 1) * 2 ^ dr * b ≤ 2 * (a * 2 ^ 54) := by
  refine low _ ?_ ?_
  ·rw [hg, ← Nat.mul_assoc, Nat.mul_comm _ 2, Nat.mul_assoc, Nat.mul_mod_right]
  ·have h := hkn.1
   rw [show kept * (2 ^ dr * 2) = 2 * (kept * 2 ^ dr) by rw [Nat.mul_comm (2 ^ dr) 2, ← Nat.mul_assoc, Nat.mul_comm kept 2, Nat.mul_assoc]] at h
   rw [Nat.sub_mul, Nat.one_mul, Nat.mul_assoc]
   generalize kept * 2 ^ dr = X at *
   omega
 have dn2 : 2 ^ 52 * 2 ^ (dr + 1) * b ≤ 2 * (a * 2 ^ 54) := by
  refine low _ ?_ hmlo
  rw [Nat.pow_succ 2 dr, ← Nat.mul_assoc, Nat.mul_mod_left]
 refine ⟨M, (-e).toNat, e, by rw [hdiv, hw], hM1, hM2, by omega, by omega, ?_, by omega⟩
 intro he0 ht
 generalize (-e).toNat = t at ht
 have cv : ∀ z : Nat, 107 - Ln = dr + 52 - Ld + z → ∀ c : Nat, (2 * (a * 2 ^ 54) ≤ c * 2 ^ dr * b → n * 2 ^ z ≤ c * d) ∧ (c * 2 ^ dr * b ≤ 2 * (a * 2 ^ 54) → c * d ≤ n * 2 ^ z) := by
  intro z hz c
  have e1 : 2 * (a * 2 ^ 54) = n * 2 ^ z * 2 ^ (dr + (52 - Ld)) := by
   rw [← ha, Nat.mul_assoc n (2 ^ z), ← Nat.pow_add, Nat.mul_comm 2, Nat.mul_assoc, ← Nat.pow_succ, Nat.mul_assoc, ← Nat.pow_add]
   congr 2; omega
  have e2 : c * 2 ^ dr * b = c * d * 2 ^ (dr + (52 - Ld)) := by
   rw [← hb, Nat.pow_add, Nat.mul_assoc, Nat.mul_assoc]
   congr 1
   rw [Nat.mul_left_comm]
  rw [e1, e2]
  exact ⟨fun h => Nat.le_of_mul_le_mul_right h (Nat.two_pow_pos _), fun h => Nat.le_of_mul_le_mul_right h (Nat.two_pow_pos _)⟩
 rcases hke with ⟨rfl, he1⟩ | ⟨hM52, hk53, he1⟩
 ·have z1 := cv (t + 1) (by omega)
  refine ⟨(z1 _).1 up, ?_⟩
  split
  ·rename_i h52
   have := (z1 (2 ^ 53)).2 (by rw [Nat.pow_succ 2 dr, Nat.mul_comm (2 ^ dr) 2, ← Nat.mul_assoc (2 ^ 52)] at dn2; exact dn2)
   rw [Nat.pow_succ, ← Nat.mul_assoc] 
   have h3 : (4 * M - 1) * d ≤ 2 ^ 53 * d * 2 := by rw [Nat.mul_right_comm]; exact Nat.mul_le_mul_right _ (by omega)
   omega
  ·exact (z1 _).2 dn
 ·have z1 := cv (t + 2) (by omega)
  subst hM52
  rw [hk53] at up dn
  have u := (z1 _).1 up
  have l := (z1 _).2 dn
  rw [if_pos rfl]
  refine ⟨?_, ?_⟩
  ·rw [Nat.pow_succ, ← Nat.mul_assoc] at u
   have h3 : (2 * 2 ^ 53 + 1) * d ≤ (2 * 2 ^ 52 + 1) * d * 2 := by rw [Nat.mul_right_comm]; exact Nat.mul_le_mul_right _ (by omega)
   omega
  ·exact l
end Go.AM
