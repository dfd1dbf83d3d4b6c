/- A part of a proof. Its conditions: none. -/
import Derived.Test.YtpdlmpbhohinpaaAmCFacts
import Derived.Test.YtpdlmpbhohinpaaAmD
set_option linter.all false
namespace Go.Proofs.Ytpdlmpbhohinpaa
open Go.AM
set_option maxRecDepth 100000
def tabOK (T : ByteArray) (L : Nat → Nat) (N : Nat) : Bool := (List.range N).all fun i => match T[i]? with
  | some b => b.toNat == L i
  | none => false
theorem w3_tab {k : Fr → Nat → Heap → Prop} {f : Fr} {d : Option Nat} {n : Nat} {H : Heap} {T : ByteArray} (L : Nat → Nat) (N : Nat) (i : Nat) (hT : tabOK T L N = true) (hi : i < N) (h : w3 k f d n H (some { v := .int .u8 (L i : Nat) })) :
    w3 k f d n H (tix2 (T[i]?)) := by
  unfold tabOK at hT
  have := List.all_eq_true.1 hT i (by simpa using hi)
  split at this
  · rename_i b hb
    rw [hb]
    have e : b.toNat = L i := by simpa using this
    show w3 k f d n H (some { v := .int .u8 (b.toNat : Nat) })
    rw [e]; exact h
  · cases this
def lenN (x : Nat) : Nat := if x = 0 then 0 else x.log2 + 1
theorem lenN_small : ∀ x, x < 256 → lenN x ≤ 8 := by
  intro x h
  by_cases h0 : x = 0
  · subst h0; unfold lenN; simp
  · have := (Nat.log2_lt h0).2 (show x < 2 ^ 8 by omega)
    unfold lenN; rw [if_neg h0]; omega
theorem wrap_u8n (x : Nat) (h : x < 256) : IntKind.u8.wrap (x : Int) = (x : Int) := by rw [wrap_u8]; omega
theorem lens_gives (x : Nat) (hx : x < 256) (n : Nat) (H : Heap) : Gives Try.prog 90 [.int .u64 x] n H fun v n' H' => (∃ k : Nat, v = .int .i64 (k : Nat)) ∧ n' = n ∧ H' = H := by
  refine Gives.of orders ok90 (Nat.le_of_ble_eq_true rfl) ?_
  have min32 : min 32 IntKind.u64.bits = 32 := rfl
  have min16 : min 16 IntKind.u64.bits = 16 := rfl
  have min8 : min 8 IntKind.u64.bits = 8 := rfl
  have h0i : ((4294967296 : Int) ≤ ((x : Nat) : Int)) = False := by simp only [eq_iff_iff, iff_false]; omega
  have h1i : ((65536 : Int) ≤ ((x : Nat) : Int)) = False := by simp only [eq_iff_iff, iff_false]; omega
  have h2i : ((256 : Int) ≤ ((x : Nat) : Int)) = False := by simp only [eq_iff_iff, iff_false]; omega
  have h0 : ¬ 4294967296 ≤ x := by omega
  have h1 : ¬ 65536 ≤ x := by omega
  have h2 : ¬ 256 ≤ x := by omega
  repeat (first | apply qqa | apply qqb | apply qqc | apply qqd | apply qqe | apply qqf | apply qqg | apply qqh | refine qqi rfl ?_ | ((first | (refine WK.rgn ?_ ?_; kernel_rfl) | refine AtCall.now ?_); simp (config := { maxSteps := 1000000 }) only [SS, qg0, qgb, qgy, forall_const, tor, vconv, Int.reduceEq, Int.reduceNeg, Nat.reduceGT, Nat.reduceLT, Nat.reduceLeDiff, Nat.reduceEqDiff, ↓reduceIte, reduceCtorEq, Int.reduceToNat, Int.reduceLE, Int.reduceLT, Nat.reduceAdd, Nat.reduceMul, min32, min16, min8, h0i, h0, h1i, h1, h2i, h2, ff_90]) | refine qqj rfl ?_ | refine qqk rfl ?_)
  have hw8 := wrap_u8n x (by omega)
  simp only [hw8, Int.toNat_natCast]
  refine w3_tab lenN 256 _ (by kernel_rfl) (by omega) ?_
  have hb := lenN_small x hx
  have hwl : IntKind.wrap .i64 ((lenN x : Nat) : Int) = ((lenN x : Nat) : Int) := by rw [wrap_in (by omega) (by omega)]
  have hww : IntKind.wrap .i64 (0 + ((lenN x : Nat) : Int)) = ((lenN x : Nat) : Int) := by rw [wrap_in (by omega) (by omega)]; omega
  have hww' : IntKind.wrap .i64 (((0 : Nat) : Int) + ((lenN x : Nat) : Int)) = ((lenN x : Nat) : Int) := by rw [wrap_in (by omega) (by omega)]; omega
  simp (config := { maxSteps := 1000000 }) only [SS, qg0, qgb, qgy, forall_const, tor, vconv, Int.reduceEq, Int.reduceNeg, Nat.reduceGT, Nat.reduceLT, Nat.reduceLeDiff, Nat.reduceEqDiff, ↓reduceIte, reduceCtorEq, Int.reduceToNat, Int.reduceLE, Int.reduceLT, Nat.reduceAdd, Nat.reduceMul, hwl, hww, hww', ff_90]
  repeat (first | apply qqa | apply qqb | apply qqc | apply qqd | apply qqe | apply qqf | apply qqg | apply qqh | refine qqi rfl ?_ | ((first | (refine WK.rgn ?_ ?_; kernel_rfl) | refine AtCall.now ?_); simp (config := { maxSteps := 1000000 }) only [SS, qg0, qgb, qgy, forall_const, tor, vconv, Int.reduceEq, Int.reduceNeg, Nat.reduceGT, Nat.reduceLT, Nat.reduceLeDiff, Nat.reduceEqDiff, ↓reduceIte, reduceCtorEq, Int.reduceToNat, Int.reduceLE, Int.reduceLT, Nat.reduceAdd, Nat.reduceMul, hwl, hww, hww', ff_90]) | refine qqj rfl ?_ | refine qqk rfl ?_)
  (first | refine WK.retNil ⟨Or.inr rfl, _, rfl, ?_, ?_⟩ | refine WK.skipNil ⟨Or.inl rfl, _, rfl, ?_, ?_⟩)
  · exact fun _ _ => rfl
  · simp only [packed, fset_apply, Nat.reduceEqDiff, ↓reduceIte, List.getD_cons_zero, List.getD_cons_succ, ff_90]
    exact ⟨⟨_, rfl⟩, trivial, trivial⟩
theorem blen_gives (x : Nat) (hx : x < 256) (n : Nat) (H : Heap) : Gives Try.prog 70 [.int .u64 x] n H fun v n' H' => (∃ k : Nat, v = .int .i64 (k : Nat)) ∧ n' = n ∧ H' = H := by
  refine Gives.of orders ok70 (Nat.le_of_ble_eq_true rfl) ?_
  repeat (first | apply qqa | apply qqb | apply qqc | apply qqd | apply qqe | apply qqf | apply qqg | apply qqh | refine qqi rfl ?_ | ((first | (refine WK.rgn ?_ ?_; kernel_rfl) | refine AtCall.now ?_); simp (config := { maxSteps := 1000000 }) only [SS, qg0, forall_const, tor, vconv, Int.reduceEq, Int.reduceNeg, Nat.reduceGT, Nat.reduceLT, Nat.reduceLeDiff, Nat.reduceEqDiff, ↓reduceIte, reduceCtorEq, Int.reduceToNat, Int.reduceLE, Int.reduceLT, Nat.reduceAdd, Nat.reduceMul, ff_70]) | refine qqj rfl ?_ | refine qqk rfl ?_)
  refine AtCall.by (lens_gives x hx _ _) ?_
  rintro v n' H' hk' ⟨⟨k, rfl⟩, rfl, rfl⟩
  simp (config := { maxSteps := 1000000 }) only [SS, qg0, forall_const, tor, vconv, Int.reduceEq, Int.reduceNeg, Nat.reduceGT, Nat.reduceLT, Nat.reduceLeDiff, Nat.reduceEqDiff, ↓reduceIte, reduceCtorEq, Int.reduceToNat, Int.reduceLE, Int.reduceLT, Nat.reduceAdd, Nat.reduceMul, ff_70]
  repeat (first | apply qqa | apply qqb | apply qqc | apply qqd | apply qqe | apply qqf | apply qqg | apply qqh | refine qqi rfl ?_ | ((first | (refine WK.rgn ?_ ?_; kernel_rfl) | refine AtCall.now ?_); simp (config := { maxSteps := 1000000 }) only [SS, qg0, forall_const, tor, vconv, Int.reduceEq, Int.reduceNeg, Nat.reduceGT, Nat.reduceLT, Nat.reduceLeDiff, Nat.reduceEqDiff, ↓reduceIte, reduceCtorEq, Int.reduceToNat, Int.reduceLE, Int.reduceLT, Nat.reduceAdd, Nat.reduceMul, ff_70]) | refine qqj rfl ?_ | refine qqk rfl ?_)
  (first | refine WK.retNil ⟨Or.inr rfl, _, rfl, ?_, ?_⟩ | refine WK.skipNil ⟨Or.inl rfl, _, rfl, ?_, ?_⟩)
  · exact fun _ _ => rfl
  · simp only [packed, fset_apply, Nat.reduceEqDiff, ↓reduceIte, List.getD_cons_zero, List.getD_cons_succ, ff_70]
    exact ⟨⟨_, rfl⟩, trivial, trivial⟩
end Go.Proofs.Ytpdlmpbhohinpaa
