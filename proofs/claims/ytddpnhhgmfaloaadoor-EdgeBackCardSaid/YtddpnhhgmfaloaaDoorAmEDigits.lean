/- A part of a proof. Its conditions: none. -/
import Derived.Test.YtddpnhhgmfaloaaDoorAmELen
import Derived.Test.YtddpnhhgmfaloaaDoorAmEScale
set_option linter.all false
namespace Go.Proofs.YtddpnhhgmfaloaaDoor
open Go.AM
set_option maxRecDepth 100000

/-! ### How many digits -/
theorem ev_global' {f : Fr} (g : Nat) : evalA f (.global g) = .pointer (some ⟨g, 0, none⟩) := rfl
def numD (d : Nat) : Nat := lenN d * 78913 / 262144 + if 10 ^ (lenN d * 78913 / 262144) ≤ d then 1 else 0
theorem numD_tab : ((List.range 64).all fun L => decide (10 ^ (L * 78913 / 262144) ≤ 2 ^ L ∧ 2 ^ L < 10 ^ (L * 78913 / 262144 + 1) ∧ L * 78913 / 262144 ≤ 18)) = true := by kernel_rfl
theorem numD_at {L : Nat} (h : L < 64) : 10 ^ (L * 78913 / 262144) ≤ 2 ^ L ∧ 2 ^ L < 10 ^ (L * 78913 / 262144 + 1) ∧ L * 78913 / 262144 ≤ 18 := by
  have := List.all_eq_true.1 numD_tab L (by simpa using h)
  exact of_decide_eq_true this
theorem numD_spec {d : Nat} (h : d ≠ 0) (hd : d < 9223372036854775808) : 10 ^ (numD d - 1) ≤ d ∧ d < 10 ^ numD d ∧ 1 ≤ numD d ∧ numD d ≤ 19 := by
  have hL : lenN d < 64 := by have := lenN_le d 63 hd; omega
  obtain ⟨a, b, c⟩ := numD_at hL
  obtain ⟨e, f⟩ := lenN_spec d h
  have hl1 : 1 ≤ lenN d := by unfold lenN; rw [if_neg h]; omega
  have h2 : 2 ^ lenN d = 2 * 2 ^ (lenN d - 1) := by
    rw [← Nat.pow_succ']; congr 1; omega
  unfold numD
  generalize lenN d * 78913 / 262144 = N at *
  by_cases hc : 10 ^ N ≤ d
  · rw [if_pos hc]
    refine ⟨by simpa using hc, by omega, by omega, by omega⟩
  · rw [if_neg hc]
    cases N with
    | zero => simp at hc; omega
    | succ N =>
      refine ⟨?_, by simpa using Nat.lt_of_not_le hc, by omega, by omega⟩
      simp only [Nat.add_zero, Nat.add_sub_cancel]
      have : 10 ^ (N + 1) = 10 * 10 ^ N := Nat.pow_succ'
      omega

def isTen (i : Nat) (v : Option Value) : Bool := match v with
  | some (.int .u64 z) => z == ((10 ^ i : Nat) : Int)
  | _ => false
theorem tens_tab : ((List.range 19).all fun i => isTen i tens[i]?) = true := by kernel_rfl
theorem tens_at {i : Nat} (h : i < 19) : tens[i]? = some (.int .u64 ((10 ^ i : Nat) : Int)) := by
  have := List.all_eq_true.1 tens_tab i (by simpa using h)
  generalize tens[i]? = o at this
  unfold isTen at this
  split at this
  · rename_i z
    have e : z = ((10 ^ i : Nat) : Int) := by simpa using this
    rw [e]
  · cases this

theorem digits_gives (d : Nat) (hd : d < 9223372036854775808) {n : Nat} {H : Heap} (h3 : H 3 = .cells tens 114 false) :
    Gives Tryd.prog 65 [.int .u64 d] n H fun v n' H' => v = .int .i64 (numD d : Nat) ∧ n' = n ∧ H' = H := by
  refine Gives.of orders ok65 (Nat.le_of_ble_eq_true rfl) ?_
  have hl := lenN_le d 63 hd
  obtain ⟨_, _, hN⟩ := numD_at (L := lenN d) (by omega)
  have e1 : (((lenN d : Nat) : Int) * 78913).fdiv (2 ^ 18) = ((lenN d * 78913 / 262144 : Nat) : Int) := by
    have : ((lenN d : Nat) : Int) * 78913 = ((lenN d * 78913 : Nat) : Int) := by simp
    rw [this]; exact shr_nat _ 18
  have ht := tens_at (i := lenN d * 78913 / 262144) (by omega)
  have hnum : numD d = lenN d * 78913 / 262144 + if 10 ^ (lenN d * 78913 / 262144) ≤ d then 1 else 0 := rfl
-- function 65
  repeat (first | apply WK.seq | apply WK.block | apply WK.skipSeq | apply WK.skipBlock | apply WK.retSeq | apply WK.retBlock | apply WK.exitSeq | apply WK.exitHere | refine WK.exitOn rfl ?_ | ((first | (refine WK.rgn ?_ ?_; kernel_rfl) | refine AtCall.now ?_); simp (config := { maxSteps := 1000000 }) only [SS, forall_const, wx, tguard, acallee, top, tval, fput, tor, vsh, vbin, tload, tload2, tload3, tidx, tidx2, tidx3, Int.reduceEq, Int.reduceNeg, Nat.reduceGT, Nat.reduceLT, Nat.reduceLeDiff, Nat.reduceEqDiff, ↓reduceIte, reduceCtorEq, Int.reduceToNat, Int.reduceLE, Int.reduceLT, Nat.reduceAdd, Nat.reduceMul, ff_65]) | (refine WK.condT ?_ ?_; focus (simp only [ev_tmp, ev_const, fset_apply, Nat.reduceEqDiff, ↓reduceIte, decide_true, decide_false, ff_65]; done)) | (refine WK.condF ?_ ?_; focus (simp only [ev_tmp, ev_const, fset_apply, Nat.reduceEqDiff, ↓reduceIte, decide_true, decide_false, ff_65]; done)))
  refine AtCall.by (len_gives d (by omega) _ _) ?_
  rintro v n' H' hk ⟨rfl, rfl, rfl⟩
  simp (config := { maxSteps := 1000000 }) only [SS, forall_const, wx, tguard, acallee, top, tval, fput, tor, vsh, vbin, tload, tload2, tload3, tidx, tidx2, tidx3, Int.reduceEq, Int.reduceNeg, Nat.reduceGT, Nat.reduceLT, Nat.reduceLeDiff, Nat.reduceEqDiff, ↓reduceIte, reduceCtorEq, Int.reduceToNat, Int.reduceLE, Int.reduceLT, Nat.reduceAdd, Nat.reduceMul, ff_65]
  refine AtCall.by (log10_gives _ (by omega) _ _) ?_
  rintro v n' H' hk ⟨rfl, rfl, rfl⟩
  rw [e1]
  generalize lenN d * 78913 / 262144 = N at *
  have hN0 : (0 : Int) ≤ (N : Int) ∧ (N : Int) < ((20 : Nat) : Int) := by omega
  have hNn : (N : Int).toNat = N := Int.toNat_natCast N
  generalize tens = ts at *
  simp (config := { maxSteps := 1000000 }) only [SS, forall_const, wx, tguard, acallee, top, tval, fput, tor, vsh, vbin, tload, tload2, tload3, tidx, tidx2, tidx3, Int.reduceEq, Int.reduceNeg, Nat.reduceGT, Nat.reduceLT, Nat.reduceLeDiff, Nat.reduceEqDiff, ↓reduceIte, reduceCtorEq, Int.reduceToNat, Int.reduceLE, Int.reduceLT, Nat.reduceAdd, Nat.reduceMul, ff_65]
  repeat (first | apply WK.seq | apply WK.block | apply WK.skipSeq | apply WK.skipBlock | apply WK.retSeq | apply WK.retBlock | apply WK.exitSeq | apply WK.exitHere | refine WK.exitOn rfl ?_ | ((first | (refine WK.rgn ?_ ?_; kernel_rfl) | refine AtCall.now ?_); simp (config := { maxSteps := 1000000 }) only [SS, forall_const, wx, tguard, acallee, top, tval, fput, tor, vsh, vbin, tload, tload2, tload3, tidx, tidx2, tidx3, Int.reduceEq, Int.reduceNeg, Nat.reduceGT, Nat.reduceLT, Nat.reduceLeDiff, Nat.reduceEqDiff, ↓reduceIte, reduceCtorEq, Int.reduceToNat, Int.reduceLE, Int.reduceLT, Nat.reduceAdd, Nat.reduceMul, ev_global', h3, hN0, hNn, ht, ff_65]) | (refine WK.condT ?_ ?_; focus (simp only [ev_tmp, ev_const, fset_apply, Nat.reduceEqDiff, ↓reduceIte, decide_true, decide_false, ev_global', h3, hN0, hNn, ht, ff_65]; done)) | (refine WK.condF ?_ ?_; focus (simp only [ev_tmp, ev_const, fset_apply, Nat.reduceEqDiff, ↓reduceIte, decide_true, decide_false, ev_global', h3, hN0, hNn, ht, ff_65]; done)))
  refine AtCall.by (booli_gives _ _ _) ?_
  rintro v n' H' hk ⟨rfl, rfl, rfl⟩
  have hw : ∀ b : Bool, IntKind.i64.wrap ((N : Int) + (b.toNat : Int)) = ((N + b.toNat : Nat) : Int) := fun b => by
    have : b.toNat ≤ 1 := by cases b <;> simp
    rw [wrap_in (by omega) (by omega)]; simp
  simp (config := { maxSteps := 1000000 }) only [SS, forall_const, wx, tguard, acallee, top, tval, fput, tor, vsh, vbin, tload, tload2, tload3, tidx, tidx2, tidx3, Int.reduceEq, Int.reduceNeg, Nat.reduceGT, Nat.reduceLT, Nat.reduceLeDiff, Nat.reduceEqDiff, ↓reduceIte, reduceCtorEq, Int.reduceToNat, Int.reduceLE, Int.reduceLT, Nat.reduceAdd, Nat.reduceMul, hw, ff_65]
  repeat (first | apply WK.seq | apply WK.block | apply WK.skipSeq | apply WK.skipBlock | apply WK.retSeq | apply WK.retBlock | apply WK.exitSeq | apply WK.exitHere | refine WK.exitOn rfl ?_ | ((first | (refine WK.rgn ?_ ?_; kernel_rfl) | refine AtCall.now ?_); simp (config := { maxSteps := 1000000 }) only [SS, forall_const, wx, tguard, acallee, top, tval, fput, tor, vsh, vbin, tload, tload2, tload3, tidx, tidx2, tidx3, Int.reduceEq, Int.reduceNeg, Nat.reduceGT, Nat.reduceLT, Nat.reduceLeDiff, Nat.reduceEqDiff, ↓reduceIte, reduceCtorEq, Int.reduceToNat, Int.reduceLE, Int.reduceLT, Nat.reduceAdd, Nat.reduceMul, hw, ff_65]) | (refine WK.condT ?_ ?_; focus (simp only [ev_tmp, ev_const, fset_apply, Nat.reduceEqDiff, ↓reduceIte, decide_true, decide_false, hw, ff_65]; done)) | (refine WK.condF ?_ ?_; focus (simp only [ev_tmp, ev_const, fset_apply, Nat.reduceEqDiff, ↓reduceIte, decide_true, decide_false, hw, ff_65]; done)))
  (first | refine WK.retNil ⟨Or.inr rfl, _, rfl, ?_, ?_⟩ | refine WK.skipNil ⟨Or.inl rfl, _, rfl, ?_, ?_⟩)
  · exact fun _ _ => rfl
  · simp only [packed, fset_apply, Nat.reduceEqDiff, ↓reduceIte, List.getD_cons_zero, List.getD_cons_succ, ff_65]
    rw [hnum]
    by_cases hc : 10 ^ N ≤ d
    · simp [hc]
    · simp [hc]
end Go.Proofs.YtddpnhhgmfaloaaDoor
