/- A part of a proof. Its conditions: none. -/
import Derived.Test.YtddpnhhgmfaloaaDoorAmEScale
set_option linter.all false
namespace Go.Proofs.YtddpnhhgmfaloaaDoor
open Go.AM
set_option maxRecDepth 100000

theorem ev_global {f : Fr} (g : Nat) : evalA f (.global g) = .pointer (some ⟨g, 0, none⟩) := rfl

/-- The table of powers of ten: row p. -/
def powHi (i : Nat) : Nat := (Go.Pinned.pow10Rows.getD i (0, 0)).1
def powLo (i : Nat) : Nat := (Go.Pinned.pow10Rows.getD i (0, 0)).2
theorem pows_len : Go.Pinned.pow10Rows.length = 696 := by kernel_rfl
theorem pows_at (i : Nat) (h : i < 696) : pows[i * 2]? = some (.int .u64 (powHi i : Int)) ∧ pows[i * 2 + 1]? = some (.int .u64 (powLo i : Int)) := by
  have key : ∀ (rows : List (Nat × Nat)) (i : Nat), i < rows.length →
      (rows.flatMap fun x => [Value.int .u64 x.1, Value.int .u64 x.2])[i * 2]? = some (.int .u64 ((rows.getD i (0, 0)).1 : Int)) ∧ (rows.flatMap fun x => [Value.int .u64 x.1, Value.int .u64 x.2])[i * 2 + 1]? = some (.int .u64 ((rows.getD i (0, 0)).2 : Int)) := by
    intro rows
    induction rows with
    | nil => intro i h; simp at h
    | cons r rows ih =>
      intro i h
      cases i with
      | zero => exact ⟨rfl, rfl⟩
      | succ i =>
        have := ih i (by simp at h; omega)
        simp only [List.flatMap_cons, List.cons_append, List.nil_append, List.getD_cons_succ]
        rw [show (i + 1) * 2 = i * 2 + 1 + 1 by omega, show i * 2 + 1 + 1 + 1 = (i * 2 + 1) + 1 + 1 by omega]
        simpa using this
  exact key Go.Pinned.pow10Rows i (by rw [pows_len]; exact h)

theorem prescale_gives (e p lp : Int) (he : -100000 ≤ e ∧ e ≤ 100000) (hlp : -100000 ≤ lp ∧ lp ≤ 100000) (hp : -348 ≤ p ∧ p < 348) {y n : Nat} {H : Heap} {ty : TypeId} {a b c : Value}
    (hy : H y = .cells [a, b, c] ty true) (h4 : H 4 = .cells pows 124 false) :
    GivesX Tryd.prog (fun z => z = y) 78 [.pointer (some ⟨y, 0, none⟩), .int .i64 e, .int .i64 p, .int .i64 lp] n H fun v n' H' =>
      n' = n ∧ H' y = .cells [.int .u64 (powHi (p + 348).toNat : Int), .int .u64 (powLo (p + 348).toNat : Int), .int .i64 (-(e + lp + 3))] ty true := by
  refine GivesX.of orders ok78 (Nat.le_of_ble_eq_true rfl) ?_
  have w1 : IntKind.i64.wrap (p - -348) = p + 348 := by rw [show p - -348 = p + 348 by omega]; exact wrap_in (by omega) (by omega)
  have w2 : IntKind.i64.wrap (e + lp) = e + lp := wrap_in (by omega) (by omega)
  have w3 : IntKind.i64.wrap (e + lp + 3) = e + lp + 3 := wrap_in (by omega) (by omega)
  have w4 : IntKind.i64.wrap (0 - (e + lp + 3)) = -(e + lp + 3) := by rw [Int.zero_sub]; exact wrap_in (by omega) (by omega)
  have hi0 : (0 : Int) ≤ p + 348 := by omega
  have hi1 : p + 348 < 696 := by omega
  obtain ⟨g0, g1⟩ := pows_at (p + 348).toNat (by omega)
  have hne : (4 : Nat) ≠ y := by intro e; subst e; rw [h4] at hy; cases hy
  have k1 : ∀ o, hset H y o 4 = .cells pows 124 false := fun o => (hset_ne _ _ _ hne).trans h4
  have hi0' : (0 : Int) ≤ p + 348 ∧ p + 348 < ((696 : Nat) : Int) := by omega
  obtain ⟨i, hi⟩ : ∃ i, (p + 348).toNat = i := ⟨_, rfl⟩
  rw [hi] at g0 g1 ⊢
  generalize pows = ps at *
  have l3 : ([a, b, c] : List Value).length = 3 := rfl
-- function 78
  repeat (first | apply WK.seq | apply WK.block | apply WK.skipSeq | apply WK.skipBlock | apply WK.retSeq | apply WK.retBlock | apply WK.exitSeq | apply WK.exitHere | refine WK.exitOn rfl ?_ | ((first | (refine WK.rgn ?_ ?_; kernel_rfl) | refine AtCall.now ?_); simp (config := { maxSteps := 1000000 }) only [SS, forall_const, wx, tguard, acallee, top, tval, fput, tor, vsh, vbin, vun, tload, tload2, tload3, tstore, tstore2, tstore3, Go.AM.splice, one, tidx, tidx2, tidx3, tfa, tfa2, Int.reduceEq, Int.reduceNeg, Nat.reduceGT, Nat.reduceLT, Nat.reduceLeDiff, Nat.reduceEqDiff, ↓reduceIte, reduceCtorEq, Int.reduceToNat, Int.reduceLE, Int.reduceLT, Nat.reduceAdd, Nat.reduceMul, aop_nc, tnc, ev_global, hi, hi0', and_self, h4, g0, g1, w1, hy, w2, w3, w4, hset_at, k1, List.set_cons_zero, List.set_cons_succ, List.length_cons, List.length_nil, ff_78]) | (refine WK.condT ?_ ?_; focus (simp only [ev_tmp, ev_const, fset_apply, Nat.reduceEqDiff, ↓reduceIte, decide_true, decide_false, aop_nc, tnc, ev_global, hi, hi0', and_self, h4, g0, g1, w1, hy, w2, w3, w4, hset_at, k1, List.set_cons_zero, List.set_cons_succ, List.length_cons, List.length_nil, ff_78]; done)) | (refine WK.condF ?_ ?_; focus (simp only [ev_tmp, ev_const, fset_apply, Nat.reduceEqDiff, ↓reduceIte, decide_true, decide_false, aop_nc, tnc, ev_global, hi, hi0', and_self, h4, g0, g1, w1, hy, w2, w3, w4, hset_at, k1, List.set_cons_zero, List.set_cons_succ, List.length_cons, List.length_nil, ff_78]; done)))
  refine WK.skipNil ⟨Or.inl rfl, _, rfl, fun z hz hzx => hset_ne _ _ _ hzx, rfl, hset_at _ _ _⟩

theorem w64 : IntKind.u64.wrap (8 * 8) = 64 := rfl
theorem w63 : IntKind.i64.wrap (63 - 52) = 11 := rfl
theorem w11a : IntKind.i64.wrap (11 - 2) = 9 := rfl
theorem w11b : IntKind.i64.wrap (11 - 1) = 10 := rfl
theorem nb9 : ((9 : Int) < 0) = False := by simp
theorem nb10 : ((10 : Int) < 0) = False := by simp
theorem nb11 : ((11 : Int) < 0) = False := by simp
theorem min9 : min 9 IntKind.u64.bits = 9 := rfl
theorem min10 : min 10 IntKind.u64.bits = 10 := rfl
theorem min11 : min 11 IntKind.u64.bits = 11 := rfl
theorem o9 : IntKind.u64.wrap (1 * 2 ^ 9) = 512 := rfl
theorem o10 : IntKind.u64.wrap (1 * 2 ^ 10) = 1024 := rfl

set_option maxHeartbeats 4000000 in
/-- The shortest decimal, where a multiple of ten lies between the ends. -/
theorem short_gives (m : Nat) (e p : Int) (mn mx odd hi lo sh : Nat) (hm : 9223372036854775808 ≤ m ∧ m + 2048 ≤ 18446744073709551616) (he : -100 ≤ e ∧ e ≤ 900) (hp : -340 ≤ p ∧ p < 340)
    (hpow : m = 9223372036854775808 → -((e + 11) * 631305 - 261663).fdiv (2 ^ 21) = p ∧ mn = m - 512) (hnot : m ≠ 9223372036854775808 → -((e + 11) * 78913).fdiv (2 ^ 18) = p ∧ mn = m - 1024)
    (hmx' : mx = m + 1024) (hodd : odd = m / 2048 % 2) (hhi' : hi = powHi (p + 348).toNat) (hlo' : lo = powLo (p + 348).toNat) (hhi : hi < 18446744073709551616) (hlo : lo < 18446744073709551616)
    (hsv : -(e + (p * 108853).fdiv (2 ^ 15) + 3) = (sh : Int)) (hsh : sh < 64) (b1 : uscaleS mn hi lo sh < 18446744073709551600) (b2 : uscaleS mx hi lo sh < 18446744073709551600) (hox : odd ≤ uscaleS mx hi lo sh)
    (hfirst : (uscaleS mn hi lo sh + odd + 3) / 4 ≤ (uscaleS mx hi lo sh - odd) / 4 / 10 * 10)
    {n : Nat} {H : Heap} (hw : WF n H) (h4 : H 4 = .cells pows 124 false) :
    Gives Tryd.prog 71 [.int .u64 m, .int .i64 e] n H fun v n' H' => v = .tuple #[.int .u64 (((uscaleS mx hi lo sh - odd) / 4 / 10 : Nat) : Int), .int .i64 (-(p - 1))] := by
  refine Gives.of orders ok71 (Nat.le_of_ble_eq_true rfl) ?_
  have hgn : (4 : Nat) ≠ n := by intro h; rw [h, hw n (Nat.le_refl _)] at h4; cases h4
  have hmn : mn < 18446744073709551616 := by
    by_cases h : m = 9223372036854775808
    · have := (hpow h).2; omega
    · have := (hnot h).2; omega
  have hmx : mx < 18446744073709551616 := by omega
  have ho1 : odd < 2 := by omega
  have w1 : IntKind.i64.wrap (e + 11) = e + 11 := wrap_in (by omega) (by omega)
  have hge : (-1085 ≤ e) = True := by simp; omega
  have hgt : (-1085 < e) = True := by simp; omega
  have mx1 : IntKind.u64.wrap ((m : Int) + 1024) = (mx : Int) := by rw [wrap_u64]; omega
  have od1 : (m : Int).fdiv (2 ^ 11) = ((m / 2048 : Nat) : Int) := shr_nat m 11
  have od2 : IntKind.i64.wrap (BitVec.ofInt IntKind.i64.bits (IntKind.i64.wrap ((m / 2048 : Nat) : Int)) &&& BitVec.ofInt IntKind.i64.bits 1).toNat = (odd : Int) := by
    have hin : IntKind.i64.wrap ((m / 2048 : Nat) : Int) = ((m / 2048 : Nat) : Int) := wrap_i64n _ (by omega)
    rw [hin]
    have := and_i64 (m / 2048) 1 (by omega) (by omega)
    have h' : IntKind.i64.wrap (BitVec.ofInt IntKind.i64.bits ((m / 2048 : Nat) : Int) &&& BitVec.ofInt IntKind.i64.bits 1).toNat = ((m / 2048 &&& 1 : Nat) : Int) := this
    rw [h', show (1 : Nat) = 2 ^ 1 - 1 by rfl, and_mask, hodd]
  have ngo : IntKind.i64.wrap (0 - (odd : Int)) = -(odd : Int) := by rw [Int.zero_sub]; exact wrap_in (by omega) (by omega)
  generalize hU1 : uscaleS mn hi lo sh = U1 at *
  generalize hU2 : uscaleS mx hi lo sh = U2 at *
  have q1 : IntKind.u64.wrap ((((U2 - odd) / 4 : Nat) : Int).tdiv 10) = (((U2 - odd) / 4 / 10 : Nat) : Int) := by
    rw [show (((U2 - odd) / 4 : Nat) : Int).tdiv 10 = (((U2 - odd) / 4 / 10 : Nat) : Int) from rfl, wrap_u64n, Nat.mod_eq_of_lt (by omega)]
  have q2 : IntKind.u64.wrap ((((U2 - odd) / 4 / 10 : Nat) : Int) * 10) = (((U2 - odd) / 4 / 10 * 10 : Nat) : Int) := wmul _ 10 _ rfl (by omega)
  have q3 : IntKind.i64.wrap (p - 1) = p - 1 := wrap_in (by omega) (by omega)
  have q4 : IntKind.i64.wrap (0 - (p - 1)) = -(p - 1) := by rw [Int.zero_sub]; exact wrap_in (by omega) (by omega)
  have hfi : ((((U1 + odd + 3) / 4 : Nat) : Int) ≤ (((U2 - odd) / 4 / 10 * 10 : Nat) : Int)) = True := by simp only [eq_iff_iff, iff_true]; exact_mod_cast hfirst
  have hlp : e + (p * 108853).fdiv (2 ^ 15) + 3 = -(sh : Int) := by omega
  have hlpr : -100000 ≤ (p * 108853).fdiv (2 ^ 15) ∧ (p * 108853).fdiv (2 ^ 15) ≤ 100000 := by omega
  by_cases hpw : m = 9223372036854775808
  · obtain ⟨hpe, hmne⟩ := hpow hpw
    have mn1 : IntKind.u64.wrap ((m : Int) - 512) = (mn : Int) := by rw [wrap_u64]; omega
    have hpw' : ((m : Int) = 9223372036854775808) = True := by simp only [eq_iff_iff, iff_true]; omega
-- function 71
    repeat (first | apply WK.seq | apply WK.block | apply WK.skipSeq | apply WK.skipBlock | apply WK.retSeq | apply WK.retBlock | apply WK.exitSeq | apply WK.exitHere | refine WK.exitOn rfl ?_ | ((first | (refine WK.rgn ?_ ?_; kernel_rfl) | refine AtCall.now ?_); simp (config := { maxSteps := 1000000 }) only [SS, forall_const, wx, tguard, acallee, top, tval, fput, tor, vsh, vbin, vconv, vun, tpick, talloc, still, still1, flat1, one, Int.reduceEq, Int.reduceNeg, Nat.reduceGT, Nat.reduceLT, Nat.reduceLeDiff, Nat.reduceEqDiff, ↓reduceIte, reduceCtorEq, Int.reduceToNat, Int.reduceLE, Int.reduceLT, Nat.reduceAdd, Nat.reduceMul, hpw', hgt, w1, w64, w63, ff_71]) | (refine WK.condT ?_ ?_; focus (simp only [ev_tmp, ev_const, fset_apply, Nat.reduceEqDiff, ↓reduceIte, decide_true, decide_false, hpw', hgt, w1, w64, w63, ff_71]; done)) | (refine WK.condF ?_ ?_; focus (simp only [ev_tmp, ev_const, fset_apply, Nat.reduceEqDiff, ↓reduceIte, decide_true, decide_false, hpw', hgt, w1, w64, w63, ff_71]; done)))
    refine AtCall.by (skewed_gives (e + 11) (by omega) _ _) ?_
    rintro v n' H' hk ⟨rfl, rfl, rfl⟩
    have hps : IntKind.i64.wrap (0 - ((e + 11) * 631305 - 261663).fdiv (2 ^ 21)) = p := by rw [Int.zero_sub, hpe]; exact wrap_in (by omega) (by omega)
    simp (config := { maxSteps := 1000000 }) only [SS, forall_const, wx, tguard, acallee, top, tval, fput, tor, vsh, vbin, vconv, vun, tpick, talloc, still, still1, flat1, one, Int.reduceEq, Int.reduceNeg, Nat.reduceGT, Nat.reduceLT, Nat.reduceLeDiff, Nat.reduceEqDiff, ↓reduceIte, reduceCtorEq, Int.reduceToNat, Int.reduceLE, Int.reduceLT, Nat.reduceAdd, Nat.reduceMul, hps, ff_71]
    repeat (first | apply WK.seq | apply WK.block | apply WK.skipSeq | apply WK.skipBlock | apply WK.retSeq | apply WK.retBlock | apply WK.exitSeq | apply WK.exitHere | refine WK.exitOn rfl ?_ | ((first | (refine WK.rgn ?_ ?_; kernel_rfl) | refine AtCall.now ?_); simp (config := { maxSteps := 1000000 }) only [SS, forall_const, wx, tguard, acallee, top, tval, fput, tor, vsh, vbin, vconv, vun, tpick, talloc, still, still1, flat1, one, Int.reduceEq, Int.reduceNeg, Nat.reduceGT, Nat.reduceLT, Nat.reduceLeDiff, Nat.reduceEqDiff, ↓reduceIte, reduceCtorEq, Int.reduceToNat, Int.reduceLE, Int.reduceLT, Nat.reduceAdd, Nat.reduceMul, hps, w11a, w11b, min9, min10, min11, o9, o10, mn1, mx1, od1, od2, nb9, nb10, nb11, vcells, Value.cells, ff_71]) | (refine WK.condT ?_ ?_; focus (simp only [ev_tmp, ev_const, fset_apply, Nat.reduceEqDiff, ↓reduceIte, decide_true, decide_false, hps, w11a, w11b, min9, min10, min11, o9, o10, mn1, mx1, od1, od2, nb9, nb10, nb11, vcells, Value.cells, ff_71]; done)) | (refine WK.condF ?_ ?_; focus (simp only [ev_tmp, ev_const, fset_apply, Nat.reduceEqDiff, ↓reduceIte, decide_true, decide_false, hps, w11a, w11b, min9, min10, min11, o9, o10, mn1, mx1, od1, od2, nb9, nb10, nb11, vcells, Value.cells, ff_71]; done)))
    refine AtCall.by (log2_gives p (by omega) _ _) ?_
    rintro v n' H' hk ⟨rfl, rfl, rfl⟩
    simp (config := { maxSteps := 1000000 }) only [SS, forall_const, wx, tguard, acallee, top, tval, fput, tor, vsh, vbin, vconv, vun, tpick, talloc, still, still1, flat1, one, Int.reduceEq, Int.reduceNeg, Nat.reduceGT, Nat.reduceLT, Nat.reduceLeDiff, Nat.reduceEqDiff, ↓reduceIte, reduceCtorEq, Int.reduceToNat, Int.reduceLE, Int.reduceLT, Nat.reduceAdd, Nat.reduceMul, ff_71]
    refine AtCall.byX (prescale_gives e p _ (by omega) (by omega) (by omega) (hset_at _ _ _) (by rw [hset_ne _ _ _ hgn]; exact h4)) ?_
    rintro v n2 H2 kx ⟨rfl, hy⟩
    rw [hlp, Int.neg_neg, ← hhi', ← hlo'] at hy
    simp (config := { maxSteps := 1000000 }) only [SS, forall_const, wx, tguard, acallee, top, tval, fput, tor, vsh, vbin, vconv, vun, tpick, talloc, still, still1, flat1, one, Int.reduceEq, Int.reduceNeg, Nat.reduceGT, Nat.reduceLT, Nat.reduceLeDiff, Nat.reduceEqDiff, ↓reduceIte, reduceCtorEq, Int.reduceToNat, Int.reduceLE, Int.reduceLT, Nat.reduceAdd, Nat.reduceMul, ff_71]
    repeat (first | apply WK.seq | apply WK.block | apply WK.skipSeq | apply WK.skipBlock | apply WK.retSeq | apply WK.retBlock | apply WK.exitSeq | apply WK.exitHere | refine WK.exitOn rfl ?_ | ((first | (refine WK.rgn ?_ ?_; kernel_rfl) | refine AtCall.now ?_); simp (config := { maxSteps := 1000000 }) only [SS, forall_const, wx, tguard, acallee, top, tval, fput, tor, vsh, vbin, vconv, vun, tpick, talloc, still, still1, flat1, one, Int.reduceEq, Int.reduceNeg, Nat.reduceGT, Nat.reduceLT, Nat.reduceLeDiff, Nat.reduceEqDiff, ↓reduceIte, reduceCtorEq, Int.reduceToNat, Int.reduceLE, Int.reduceLT, Nat.reduceAdd, Nat.reduceMul, ff_71]) | (refine WK.condT ?_ ?_; focus (simp only [ev_tmp, ev_const, fset_apply, Nat.reduceEqDiff, ↓reduceIte, decide_true, decide_false, ff_71]; done)) | (refine WK.condF ?_ ?_; focus (simp only [ev_tmp, ev_const, fset_apply, Nat.reduceEqDiff, ↓reduceIte, decide_true, decide_false, ff_71]; done)))
    refine AtCall.by (uscale_gives mn hi lo sh hmn hhi hlo hsh _ _ hy) ?_
    rintro v n3 H3 hk3 ⟨rfl, rfl, rfl⟩
    simp (config := { maxSteps := 1000000 }) only [SS, forall_const, wx, tguard, acallee, top, tval, fput, tor, vsh, vbin, vconv, vun, tpick, talloc, still, still1, flat1, one, Int.reduceEq, Int.reduceNeg, Nat.reduceGT, Nat.reduceLT, Nat.reduceLeDiff, Nat.reduceEqDiff, ↓reduceIte, reduceCtorEq, Int.reduceToNat, Int.reduceLE, Int.reduceLT, Nat.reduceAdd, Nat.reduceMul, hU1, ff_71]
    refine AtCall.by (nudge_up _ odd (by omega) _ _) ?_
    rintro v n3 H3 hk3 ⟨rfl, rfl, rfl⟩
    simp (config := { maxSteps := 1000000 }) only [SS, forall_const, wx, tguard, acallee, top, tval, fput, tor, vsh, vbin, vconv, vun, tpick, talloc, still, still1, flat1, one, Int.reduceEq, Int.reduceNeg, Nat.reduceGT, Nat.reduceLT, Nat.reduceLeDiff, Nat.reduceEqDiff, ↓reduceIte, reduceCtorEq, Int.reduceToNat, Int.reduceLE, Int.reduceLT, Nat.reduceAdd, Nat.reduceMul, ff_71]
    refine AtCall.by (ceil_gives _ (by omega) _ _) ?_
    rintro v n3 H3 hk3 ⟨rfl, rfl, rfl⟩
    simp (config := { maxSteps := 1000000 }) only [SS, forall_const, wx, tguard, acallee, top, tval, fput, tor, vsh, vbin, vconv, vun, tpick, talloc, still, still1, flat1, one, Int.reduceEq, Int.reduceNeg, Nat.reduceGT, Nat.reduceLT, Nat.reduceLeDiff, Nat.reduceEqDiff, ↓reduceIte, reduceCtorEq, Int.reduceToNat, Int.reduceLE, Int.reduceLT, Nat.reduceAdd, Nat.reduceMul, ff_71]
    repeat (first | apply WK.seq | apply WK.block | apply WK.skipSeq | apply WK.skipBlock | apply WK.retSeq | apply WK.retBlock | apply WK.exitSeq | apply WK.exitHere | refine WK.exitOn rfl ?_ | ((first | (refine WK.rgn ?_ ?_; kernel_rfl) | refine AtCall.now ?_); simp (config := { maxSteps := 1000000 }) only [SS, forall_const, wx, tguard, acallee, top, tval, fput, tor, vsh, vbin, vconv, vun, tpick, talloc, still, still1, flat1, one, Int.reduceEq, Int.reduceNeg, Nat.reduceGT, Nat.reduceLT, Nat.reduceLeDiff, Nat.reduceEqDiff, ↓reduceIte, reduceCtorEq, Int.reduceToNat, Int.reduceLE, Int.reduceLT, Nat.reduceAdd, Nat.reduceMul, ff_71]) | (refine WK.condT ?_ ?_; focus (simp only [ev_tmp, ev_const, fset_apply, Nat.reduceEqDiff, ↓reduceIte, decide_true, decide_false, ff_71]; done)) | (refine WK.condF ?_ ?_; focus (simp only [ev_tmp, ev_const, fset_apply, Nat.reduceEqDiff, ↓reduceIte, decide_true, decide_false, ff_71]; done)))
    refine AtCall.by (uscale_gives mx hi lo sh hmx hhi hlo hsh _ _ hy) ?_
    rintro v n3 H3 hk3 ⟨rfl, rfl, rfl⟩
    simp (config := { maxSteps := 1000000 }) only [SS, forall_const, wx, tguard, acallee, top, tval, fput, tor, vsh, vbin, vconv, vun, tpick, talloc, still, still1, flat1, one, Int.reduceEq, Int.reduceNeg, Nat.reduceGT, Nat.reduceLT, Nat.reduceLeDiff, Nat.reduceEqDiff, ↓reduceIte, reduceCtorEq, Int.reduceToNat, Int.reduceLE, Int.reduceLT, Nat.reduceAdd, Nat.reduceMul, ngo, hU2, ff_71]
    refine AtCall.by (nudge_down _ odd (by omega) hox _ _) ?_
    rintro v n3 H3 hk3 ⟨rfl, rfl, rfl⟩
    simp (config := { maxSteps := 1000000 }) only [SS, forall_const, wx, tguard, acallee, top, tval, fput, tor, vsh, vbin, vconv, vun, tpick, talloc, still, still1, flat1, one, Int.reduceEq, Int.reduceNeg, Nat.reduceGT, Nat.reduceLT, Nat.reduceLeDiff, Nat.reduceEqDiff, ↓reduceIte, reduceCtorEq, Int.reduceToNat, Int.reduceLE, Int.reduceLT, Nat.reduceAdd, Nat.reduceMul, ff_71]
    refine AtCall.by (floor_gives _ (by omega) _ _) ?_
    rintro v n3 H3 hk3 ⟨rfl, rfl, rfl⟩
    simp (config := { maxSteps := 1000000 }) only [SS, forall_const, wx, tguard, acallee, top, tval, fput, tor, vsh, vbin, vconv, vun, tpick, talloc, still, still1, flat1, one, Int.reduceEq, Int.reduceNeg, Nat.reduceGT, Nat.reduceLT, Nat.reduceLeDiff, Nat.reduceEqDiff, ↓reduceIte, reduceCtorEq, Int.reduceToNat, Int.reduceLE, Int.reduceLT, Nat.reduceAdd, Nat.reduceMul, q1, ff_71]
    repeat (first | apply WK.seq | apply WK.block | apply WK.skipSeq | apply WK.skipBlock | apply WK.retSeq | apply WK.retBlock | apply WK.exitSeq | apply WK.exitHere | refine WK.exitOn rfl ?_ | ((first | (refine WK.rgn ?_ ?_; kernel_rfl) | refine AtCall.now ?_); simp (config := { maxSteps := 1000000 }) only [SS, forall_const, wx, tguard, acallee, top, tval, fput, tor, vsh, vbin, vconv, vun, tpick, talloc, still, still1, flat1, one, Int.reduceEq, Int.reduceNeg, Nat.reduceGT, Nat.reduceLT, Nat.reduceLeDiff, Nat.reduceEqDiff, ↓reduceIte, reduceCtorEq, Int.reduceToNat, Int.reduceLE, Int.reduceLT, Nat.reduceAdd, Nat.reduceMul, q1, q2, q3, q4, hfirst, ff_71]) | (refine WK.condT ?_ ?_; focus (simp only [ev_tmp, ev_const, fset_apply, Nat.reduceEqDiff, ↓reduceIte, decide_true, decide_false, q1, q2, q3, q4, hfirst, ff_71]; done)) | (refine WK.condF ?_ ?_; focus (simp only [ev_tmp, ev_const, fset_apply, Nat.reduceEqDiff, ↓reduceIte, decide_true, decide_false, q1, q2, q3, q4, hfirst, ff_71]; done)))
    (first | refine WK.retNil ⟨Or.inr rfl, _, rfl, ?_, ?_⟩ | refine WK.skipNil ⟨Or.inl rfl, _, rfl, ?_, ?_⟩)
    · intro z hz
      exact (kx.keep z (by omega) (by omega)).trans (hset_ne _ _ _ (by omega))
    · simp only [packed, fset_apply, Nat.reduceEqDiff, ↓reduceIte, List.getD_cons_zero, List.getD_cons_succ, ff_71]
  · obtain ⟨hpe, hmne⟩ := hnot hpw
    have mn1 : IntKind.u64.wrap ((m : Int) - 1024) = (mn : Int) := by rw [wrap_u64]; omega
    have hpw' : ((m : Int) = 9223372036854775808) = False := by simp only [eq_iff_iff, iff_false]; omega
-- function 71
    repeat (first | apply WK.seq | apply WK.block | apply WK.skipSeq | apply WK.skipBlock | apply WK.retSeq | apply WK.retBlock | apply WK.exitSeq | apply WK.exitHere | refine WK.exitOn rfl ?_ | ((first | (refine WK.rgn ?_ ?_; kernel_rfl) | refine AtCall.now ?_); simp (config := { maxSteps := 1000000 }) only [SS, forall_const, wx, tguard, acallee, top, tval, fput, tor, vsh, vbin, vconv, vun, tpick, talloc, still, still1, flat1, one, Int.reduceEq, Int.reduceNeg, Nat.reduceGT, Nat.reduceLT, Nat.reduceLeDiff, Nat.reduceEqDiff, ↓reduceIte, reduceCtorEq, Int.reduceToNat, Int.reduceLE, Int.reduceLT, Nat.reduceAdd, Nat.reduceMul, hpw', hgt, hge, w1, w64, w63, ff_71]) | (refine WK.condT ?_ ?_; focus (simp only [ev_tmp, ev_const, fset_apply, Nat.reduceEqDiff, ↓reduceIte, decide_true, decide_false, hpw', hgt, hge, w1, w64, w63, ff_71]; done)) | (refine WK.condF ?_ ?_; focus (simp only [ev_tmp, ev_const, fset_apply, Nat.reduceEqDiff, ↓reduceIte, decide_true, decide_false, hpw', hgt, hge, w1, w64, w63, ff_71]; done)))
    refine AtCall.by (log10_gives (e + 11) (by omega) _ _) ?_
    rintro v n' H' hk ⟨rfl, rfl, rfl⟩
    have hps : IntKind.i64.wrap (0 - ((e + 11) * 78913).fdiv (2 ^ 18)) = p := by rw [Int.zero_sub, hpe]; exact wrap_in (by omega) (by omega)
    simp (config := { maxSteps := 1000000 }) only [SS, forall_const, wx, tguard, acallee, top, tval, fput, tor, vsh, vbin, vconv, vun, tpick, talloc, still, still1, flat1, one, Int.reduceEq, Int.reduceNeg, Nat.reduceGT, Nat.reduceLT, Nat.reduceLeDiff, Nat.reduceEqDiff, ↓reduceIte, reduceCtorEq, Int.reduceToNat, Int.reduceLE, Int.reduceLT, Nat.reduceAdd, Nat.reduceMul, hps, ff_71]
    repeat (first | apply WK.seq | apply WK.block | apply WK.skipSeq | apply WK.skipBlock | apply WK.retSeq | apply WK.retBlock | apply WK.exitSeq | apply WK.exitHere | refine WK.exitOn rfl ?_ | ((first | (refine WK.rgn ?_ ?_; kernel_rfl) | refine AtCall.now ?_); simp (config := { maxSteps := 1000000 }) only [SS, forall_const, wx, tguard, acallee, top, tval, fput, tor, vsh, vbin, vconv, vun, tpick, talloc, still, still1, flat1, one, Int.reduceEq, Int.reduceNeg, Nat.reduceGT, Nat.reduceLT, Nat.reduceLeDiff, Nat.reduceEqDiff, ↓reduceIte, reduceCtorEq, Int.reduceToNat, Int.reduceLE, Int.reduceLT, Nat.reduceAdd, Nat.reduceMul, hps, w11a, w11b, min9, min10, min11, o9, o10, mn1, mx1, od1, od2, nb9, nb10, nb11, vcells, Value.cells, ff_71]) | (refine WK.condT ?_ ?_; focus (simp only [ev_tmp, ev_const, fset_apply, Nat.reduceEqDiff, ↓reduceIte, decide_true, decide_false, hps, w11a, w11b, min9, min10, min11, o9, o10, mn1, mx1, od1, od2, nb9, nb10, nb11, vcells, Value.cells, ff_71]; done)) | (refine WK.condF ?_ ?_; focus (simp only [ev_tmp, ev_const, fset_apply, Nat.reduceEqDiff, ↓reduceIte, decide_true, decide_false, hps, w11a, w11b, min9, min10, min11, o9, o10, mn1, mx1, od1, od2, nb9, nb10, nb11, vcells, Value.cells, ff_71]; done)))
    refine AtCall.by (log2_gives p (by omega) _ _) ?_
    rintro v n' H' hk ⟨rfl, rfl, rfl⟩
    simp (config := { maxSteps := 1000000 }) only [SS, forall_const, wx, tguard, acallee, top, tval, fput, tor, vsh, vbin, vconv, vun, tpick, talloc, still, still1, flat1, one, Int.reduceEq, Int.reduceNeg, Nat.reduceGT, Nat.reduceLT, Nat.reduceLeDiff, Nat.reduceEqDiff, ↓reduceIte, reduceCtorEq, Int.reduceToNat, Int.reduceLE, Int.reduceLT, Nat.reduceAdd, Nat.reduceMul, ff_71]
    refine AtCall.byX (prescale_gives e p _ (by omega) (by omega) (by omega) (hset_at _ _ _) (by rw [hset_ne _ _ _ hgn]; exact h4)) ?_
    rintro v n2 H2 kx ⟨rfl, hy⟩
    rw [hlp, Int.neg_neg, ← hhi', ← hlo'] at hy
    simp (config := { maxSteps := 1000000 }) only [SS, forall_const, wx, tguard, acallee, top, tval, fput, tor, vsh, vbin, vconv, vun, tpick, talloc, still, still1, flat1, one, Int.reduceEq, Int.reduceNeg, Nat.reduceGT, Nat.reduceLT, Nat.reduceLeDiff, Nat.reduceEqDiff, ↓reduceIte, reduceCtorEq, Int.reduceToNat, Int.reduceLE, Int.reduceLT, Nat.reduceAdd, Nat.reduceMul, ff_71]
    repeat (first | apply WK.seq | apply WK.block | apply WK.skipSeq | apply WK.skipBlock | apply WK.retSeq | apply WK.retBlock | apply WK.exitSeq | apply WK.exitHere | refine WK.exitOn rfl ?_ | ((first | (refine WK.rgn ?_ ?_; kernel_rfl) | refine AtCall.now ?_); simp (config := { maxSteps := 1000000 }) only [SS, forall_const, wx, tguard, acallee, top, tval, fput, tor, vsh, vbin, vconv, vun, tpick, talloc, still, still1, flat1, one, Int.reduceEq, Int.reduceNeg, Nat.reduceGT, Nat.reduceLT, Nat.reduceLeDiff, Nat.reduceEqDiff, ↓reduceIte, reduceCtorEq, Int.reduceToNat, Int.reduceLE, Int.reduceLT, Nat.reduceAdd, Nat.reduceMul, ff_71]) | (refine WK.condT ?_ ?_; focus (simp only [ev_tmp, ev_const, fset_apply, Nat.reduceEqDiff, ↓reduceIte, decide_true, decide_false, ff_71]; done)) | (refine WK.condF ?_ ?_; focus (simp only [ev_tmp, ev_const, fset_apply, Nat.reduceEqDiff, ↓reduceIte, decide_true, decide_false, ff_71]; done)))
    refine AtCall.by (uscale_gives mn hi lo sh hmn hhi hlo hsh _ _ hy) ?_
    rintro v n3 H3 hk3 ⟨rfl, rfl, rfl⟩
    simp (config := { maxSteps := 1000000 }) only [SS, forall_const, wx, tguard, acallee, top, tval, fput, tor, vsh, vbin, vconv, vun, tpick, talloc, still, still1, flat1, one, Int.reduceEq, Int.reduceNeg, Nat.reduceGT, Nat.reduceLT, Nat.reduceLeDiff, Nat.reduceEqDiff, ↓reduceIte, reduceCtorEq, Int.reduceToNat, Int.reduceLE, Int.reduceLT, Nat.reduceAdd, Nat.reduceMul, hU1, ff_71]
    refine AtCall.by (nudge_up _ odd (by omega) _ _) ?_
    rintro v n3 H3 hk3 ⟨rfl, rfl, rfl⟩
    simp (config := { maxSteps := 1000000 }) only [SS, forall_const, wx, tguard, acallee, top, tval, fput, tor, vsh, vbin, vconv, vun, tpick, talloc, still, still1, flat1, one, Int.reduceEq, Int.reduceNeg, Nat.reduceGT, Nat.reduceLT, Nat.reduceLeDiff, Nat.reduceEqDiff, ↓reduceIte, reduceCtorEq, Int.reduceToNat, Int.reduceLE, Int.reduceLT, Nat.reduceAdd, Nat.reduceMul, ff_71]
    refine AtCall.by (ceil_gives _ (by omega) _ _) ?_
    rintro v n3 H3 hk3 ⟨rfl, rfl, rfl⟩
    simp (config := { maxSteps := 1000000 }) only [SS, forall_const, wx, tguard, acallee, top, tval, fput, tor, vsh, vbin, vconv, vun, tpick, talloc, still, still1, flat1, one, Int.reduceEq, Int.reduceNeg, Nat.reduceGT, Nat.reduceLT, Nat.reduceLeDiff, Nat.reduceEqDiff, ↓reduceIte, reduceCtorEq, Int.reduceToNat, Int.reduceLE, Int.reduceLT, Nat.reduceAdd, Nat.reduceMul, ff_71]
    repeat (first | apply WK.seq | apply WK.block | apply WK.skipSeq | apply WK.skipBlock | apply WK.retSeq | apply WK.retBlock | apply WK.exitSeq | apply WK.exitHere | refine WK.exitOn rfl ?_ | ((first | (refine WK.rgn ?_ ?_; kernel_rfl) | refine AtCall.now ?_); simp (config := { maxSteps := 1000000 }) only [SS, forall_const, wx, tguard, acallee, top, tval, fput, tor, vsh, vbin, vconv, vun, tpick, talloc, still, still1, flat1, one, Int.reduceEq, Int.reduceNeg, Nat.reduceGT, Nat.reduceLT, Nat.reduceLeDiff, Nat.reduceEqDiff, ↓reduceIte, reduceCtorEq, Int.reduceToNat, Int.reduceLE, Int.reduceLT, Nat.reduceAdd, Nat.reduceMul, ff_71]) | (refine WK.condT ?_ ?_; focus (simp only [ev_tmp, ev_const, fset_apply, Nat.reduceEqDiff, ↓reduceIte, decide_true, decide_false, ff_71]; done)) | (refine WK.condF ?_ ?_; focus (simp only [ev_tmp, ev_const, fset_apply, Nat.reduceEqDiff, ↓reduceIte, decide_true, decide_false, ff_71]; done)))
    refine AtCall.by (uscale_gives mx hi lo sh hmx hhi hlo hsh _ _ hy) ?_
    rintro v n3 H3 hk3 ⟨rfl, rfl, rfl⟩
    simp (config := { maxSteps := 1000000 }) only [SS, forall_const, wx, tguard, acallee, top, tval, fput, tor, vsh, vbin, vconv, vun, tpick, talloc, still, still1, flat1, one, Int.reduceEq, Int.reduceNeg, Nat.reduceGT, Nat.reduceLT, Nat.reduceLeDiff, Nat.reduceEqDiff, ↓reduceIte, reduceCtorEq, Int.reduceToNat, Int.reduceLE, Int.reduceLT, Nat.reduceAdd, Nat.reduceMul, ngo, hU2, ff_71]
    refine AtCall.by (nudge_down _ odd (by omega) hox _ _) ?_
    rintro v n3 H3 hk3 ⟨rfl, rfl, rfl⟩
    simp (config := { maxSteps := 1000000 }) only [SS, forall_const, wx, tguard, acallee, top, tval, fput, tor, vsh, vbin, vconv, vun, tpick, talloc, still, still1, flat1, one, Int.reduceEq, Int.reduceNeg, Nat.reduceGT, Nat.reduceLT, Nat.reduceLeDiff, Nat.reduceEqDiff, ↓reduceIte, reduceCtorEq, Int.reduceToNat, Int.reduceLE, Int.reduceLT, Nat.reduceAdd, Nat.reduceMul, ff_71]
    refine AtCall.by (floor_gives _ (by omega) _ _) ?_
    rintro v n3 H3 hk3 ⟨rfl, rfl, rfl⟩
    simp (config := { maxSteps := 1000000 }) only [SS, forall_const, wx, tguard, acallee, top, tval, fput, tor, vsh, vbin, vconv, vun, tpick, talloc, still, still1, flat1, one, Int.reduceEq, Int.reduceNeg, Nat.reduceGT, Nat.reduceLT, Nat.reduceLeDiff, Nat.reduceEqDiff, ↓reduceIte, reduceCtorEq, Int.reduceToNat, Int.reduceLE, Int.reduceLT, Nat.reduceAdd, Nat.reduceMul, q1, ff_71]
    repeat (first | apply WK.seq | apply WK.block | apply WK.skipSeq | apply WK.skipBlock | apply WK.retSeq | apply WK.retBlock | apply WK.exitSeq | apply WK.exitHere | refine WK.exitOn rfl ?_ | ((first | (refine WK.rgn ?_ ?_; kernel_rfl) | refine AtCall.now ?_); simp (config := { maxSteps := 1000000 }) only [SS, forall_const, wx, tguard, acallee, top, tval, fput, tor, vsh, vbin, vconv, vun, tpick, talloc, still, still1, flat1, one, Int.reduceEq, Int.reduceNeg, Nat.reduceGT, Nat.reduceLT, Nat.reduceLeDiff, Nat.reduceEqDiff, ↓reduceIte, reduceCtorEq, Int.reduceToNat, Int.reduceLE, Int.reduceLT, Nat.reduceAdd, Nat.reduceMul, q1, q2, q3, q4, hfirst, ff_71]) | (refine WK.condT ?_ ?_; focus (simp only [ev_tmp, ev_const, fset_apply, Nat.reduceEqDiff, ↓reduceIte, decide_true, decide_false, q1, q2, q3, q4, hfirst, ff_71]; done)) | (refine WK.condF ?_ ?_; focus (simp only [ev_tmp, ev_const, fset_apply, Nat.reduceEqDiff, ↓reduceIte, decide_true, decide_false, q1, q2, q3, q4, hfirst, ff_71]; done)))
    (first | refine WK.retNil ⟨Or.inr rfl, _, rfl, ?_, ?_⟩ | refine WK.skipNil ⟨Or.inl rfl, _, rfl, ?_, ?_⟩)
    · intro z hz
      exact (kx.keep z (by omega) (by omega)).trans (hset_ne _ _ _ (by omega))
    · simp only [packed, fset_apply, Nat.reduceEqDiff, ↓reduceIte, List.getD_cons_zero, List.getD_cons_succ, ff_71]
end Go.Proofs.YtddpnhhgmfaloaaDoor
