/- A part of a proof. Its conditions: none. -/
import Derived.Test.YtpdlmpbhohinpaaAmCUseYield
import Derived.Test.YtpdlmpbhohinpaaAmC
set_option linter.all false
namespace Go.Proofs.Ytpdlmpbhohinpaa
open Go.AM Go.RowKit
set_option maxRecDepth 100000
def cnt (l : List Int) (t : Int) : Nat := (l.filter fun x => decide (x = t)).length
theorem cnt_nodup {t : Int} : ∀ {l : List Int}, l.Nodup → cnt l t = if t ∈ l then 1 else 0 := by
  intro l
  induction l with
  | nil => intro _; rfl
  | cons a l ih =>
    intro h
    obtain ⟨h1, h2⟩ := List.nodup_cons.1 h
    have := ih h2
    unfold cnt at this ⊢
    rw [List.filter_cons]
    by_cases e : a = t
    · subst e
      rw [if_neg h1] at this
      simp [this]
    · have e' : t ≠ a := fun h => e h.symm
      simp [e, e', this]
theorem count17_gives {p : Option Addr} {l : List Int} {t : Int} {n : Nat} {H : Heap} (h : RA (Value.int .i64) H p l) (hl : l.length ≤ 1000000) : Gives Try.prog 25 [.slice p l.length l.length, .int .i64 t] n H fun v n' H' => v = .int .i64 (cnt l t : Nat) ∧ n' = n ∧ H' = H := by
  refine Gives.of orders ok25 (Nat.le_of_ble_eq_true rfl) ?_
  repeat (first | apply qqa | apply qqb | apply qqc | apply qqd | apply qqe | apply qqf | apply qqg | apply qqh | refine qqi rfl ?_ | ((first | (refine WK.rgn ?_ ?_; kernel_rfl) | refine AtCall.now ?_); simp (config := { maxSteps := 1000000 }) only [SS, qg0, qgb, qgl, qgi, forall_const, tor, tlen2, Int.reduceEq, Int.reduceNeg, Nat.reduceGT, Nat.reduceLT, Nat.reduceLeDiff, Nat.reduceEqDiff, ↓reduceIte, reduceCtorEq, Int.reduceToNat, Int.reduceLE, Int.reduceLT, Nat.reduceAdd, Nat.reduceMul, ff_25]) | refine qqj rfl ?_ | refine qqk rfl ?_)
  refine WK.loop (fun k s => ∃ j : Nat, s.n = n ∧ s.H = H ∧ s.f 1 = .int .i64 t ∧ s.f 5 = .int .i64 (cnt (l.take j) t : Nat) ∧ s.f 8 = .slice p l.length l.length ∧ s.f 9 = .int .i64 (l.length : Nat) ∧ s.f 10 = .int .i64 (j : Nat) ∧ j ≤ l.length ∧ k = l.length - j) l.length ?_ ?_
  · exact ⟨0, rfl, rfl, rfl, rfl, rfl, rfl, rfl, Nat.zero_le _, rfl⟩
  rintro k ⟨f, n1, H1⟩ ⟨j, rfl, rfl, f1, f5, f8, f9, f10, hj, rfl⟩ ih
  simp only at f1 f5 f8 f9 f10 h ih
  by_cases hlt : j < l.length
  · obtain ⟨x, kx, cs, ty, own, rfl, hx, hc⟩ := h (by intro e; subst e; simp at hlt)
    have hcj := hc j _ (List.getElem?_eq_getElem hlt)
    have hwj : IntKind.wrap .i64 ((j : Int) + 1) = ((j + 1 : Nat) : Int) := by rw [wrap_in (by omega) (by omega)]; rfl
    have htj : l.take (j + 1) = l.take j ++ [l[j]] := List.take_succ_eq_append_getElem hlt
    have hcl : cnt (l.take j) t ≤ l.length := by
      unfold cnt
      have := List.length_filter_le (fun x => decide (x = t)) (l.take j)
      rw [List.length_take] at this; omega
    have hcs : cnt (l.take (j + 1)) t = cnt (l.take j) t + if l[j] = t then 1 else 0 := by
      unfold cnt
      rw [htj, List.filter_append, List.length_append]
      by_cases e : l[j] = t <;> simp [e]
    generalize cnt (l.take j) t = c at *
    generalize l[j] = y at *
    have hwc : IntKind.wrap .i64 ((c : Int) + 1) = ((c + 1 : Nat) : Int) := by rw [wrap_in (by omega) (by omega)]; rfl
    by_cases he : y = t
    · rw [if_pos he] at hcs
      repeat (first | apply qqa | apply qqb | apply qqc | apply qqd | apply qqe | apply qqf | apply qqg | apply qqh | refine qqi rfl ?_ | ((first | (refine WK.rgn ?_ ?_; kernel_rfl) | refine AtCall.now ?_); simp (config := { maxSteps := 1000000 }) only [SS, qg0, qgb, qgl, qgi, forall_const, tor, tlen2, Int.reduceEq, Int.reduceNeg, Nat.reduceGT, Nat.reduceLT, Nat.reduceLeDiff, Nat.reduceEqDiff, ↓reduceIte, reduceCtorEq, Int.reduceToNat, Int.reduceLE, Int.reduceLT, Nat.reduceAdd, Nat.reduceMul, f1, f5, f8, f9, f10, hlt, hx, hcj, he, hwc, hwj, ff_25]) | refine qqj rfl ?_ | refine qqk rfl ?_)
      refine ih (l.length - (j + 1)) (by omega) _ ?_
      refine ⟨j + 1, rfl, rfl, f1, ?_, f8, f9, rfl, hlt, rfl⟩
      rw [hcs]; rfl
    · rw [if_neg he] at hcs
      repeat (first | apply qqa | apply qqb | apply qqc | apply qqd | apply qqe | apply qqf | apply qqg | apply qqh | refine qqi rfl ?_ | ((first | (refine WK.rgn ?_ ?_; kernel_rfl) | refine AtCall.now ?_); simp (config := { maxSteps := 1000000 }) only [SS, qg0, qgb, qgl, qgi, forall_const, tor, tlen2, Int.reduceEq, Int.reduceNeg, Nat.reduceGT, Nat.reduceLT, Nat.reduceLeDiff, Nat.reduceEqDiff, ↓reduceIte, reduceCtorEq, Int.reduceToNat, Int.reduceLE, Int.reduceLT, Nat.reduceAdd, Nat.reduceMul, f1, f5, f8, f9, f10, hlt, hx, hcj, he, hwj, ff_25]) | refine qqj rfl ?_ | refine qqk rfl ?_)
      refine ih (l.length - (j + 1)) (by omega) _ ?_
      refine ⟨j + 1, rfl, rfl, f1, ?_, f8, f9, rfl, hlt, rfl⟩
      rw [hcs]; exact f5
  · repeat (first | apply qqa | apply qqb | apply qqc | apply qqd | apply qqe | apply qqf | apply qqg | apply qqh | refine qqi rfl ?_ | ((first | (refine WK.rgn ?_ ?_; kernel_rfl) | refine AtCall.now ?_); simp (config := { maxSteps := 1000000 }) only [SS, qg0, qgb, qgl, qgi, forall_const, tor, tlen2, Int.reduceEq, Int.reduceNeg, Nat.reduceGT, Nat.reduceLT, Nat.reduceLeDiff, Nat.reduceEqDiff, ↓reduceIte, reduceCtorEq, Int.reduceToNat, Int.reduceLE, Int.reduceLT, Nat.reduceAdd, Nat.reduceMul, f1, f5, f8, f9, f10, hlt, ff_25]) | refine qqj rfl ?_ | refine qqk rfl ?_)
    (first | refine WK.retNil ⟨Or.inr rfl, _, rfl, ?_, ?_⟩ | refine WK.skipNil ⟨Or.inl rfl, _, rfl, ?_, ?_⟩)
    · exact fun _ _ => rfl
    · simp only [packed, fset_apply, Nat.reduceEqDiff, ↓reduceIte, List.getD_cons_zero, List.getD_cons_succ, f5, ff_25]
      rw [List.take_of_length_le (by omega)]
      exact ⟨rfl, trivial, trivial⟩
theorem acc_run {g : Gram} {gd em : List Bool} : ∀ (w : List Int) (s s' : List (List It)), w.foldlM (pushS g gd em) s = some s' → accW g gd em s w = accB g s' := by
  intro w
  induction w with
  | nil => intro s s' h; cases h; rfl
  | cons t w ih =>
    intro s s' h
    rw [List.foldlM_cons] at h
    rw [accW_cons]
    cases hp : pushS g gd em s t with
    | none => rw [hp] at h; cases h
    | some s2 => rw [hp] at h; exact ih s2 s' h
theorem acc_none {g : Gram} {gd em : List Bool} : ∀ (w : List Int) (s : List (List It)), w.foldlM (pushS g gd em) s = none → accW g gd em s w = false := by
  intro w
  induction w with
  | nil => intro s h; cases h
  | cons t w ih =>
    intro s h
    rw [List.foldlM_cons] at h
    rw [accW_cons]
    cases hp : pushS g gd em s t with
    | none => rfl
    | some s2 => rw [hp] at h; exact ih s2 h
theorem accW_iff {g : Gram} (ok : RightOK g) {w : List Int} : accW g (gdG g) (emG g) (newS g (gdG g) (emG g)) w = true ↔ Yd g [0] w := by
  cases hr : runS g w with
  | none =>
    rw [acc_none w _ hr]
    constructor
    · intro h; cases h
    · intro h
      have := run_some ok w [] (by rw [List.append_nil]; exact h)
      rw [hr] at this; cases this
  | some s =>
    rw [acc_run w _ s hr]
    have := accR_iff ok (u := w) (by rw [hr]; rfl)
    unfold accR at this
    rwa [hr, Option.getD_some] at this
theorem yd_small {g : Gram} {l w : List Int} (h : Yd g l w) {k : Int} (hr : ∀ r ∈ g.rules, ∀ s ∈ r.right, -s - 1 < k) : (∀ s ∈ l, -s - 1 < k) → ∀ t ∈ w, t < k := by
  induction h with
  | nil => intro _ t ht; cases ht
  | term h _ ih =>
    intro hl t ht
    rcases List.mem_cons.1 ht with rfl | ht
    · exact hl _ (by simp)
    · exact ih (fun s hs => hl s (by simp [hs])) t ht
  | var h _ _ ih1 ih2 =>
    intro hl t ht
    rcases List.mem_append.1 ht with ht | ht
    · exact ih1 (hr _ (List.getElem_mem h)) t ht
    · exact ih2 (fun s hs => hl s (by simp [hs])) t ht
theorem word_in {g : Gram} (ok : RightOK g) {w : List Int} (h : Yd g [0] w) : ∀ t ∈ w, inI t := by
  intro t ht
  have h1 := h.pos t ht
  have ht' := ok.terms
  have h2 := yd_small h (k := 64) (fun r hr s hs => by
    rcases Int.lt_or_le s 0 with h0 | h0
    · have := ok.inG.rightT r hr s hs h0; omega
    · omega) (fun s hs => by simp at hs; omega) t ht
  unfold inI; omega
end Go.Proofs.Ytpdlmpbhohinpaa
