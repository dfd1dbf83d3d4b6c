/- A part of a proof. Its conditions: none. -/
import Derived.Test.YtddpnhhgmfaloaaDoorAmERead
set_option linter.all false
namespace Go.Proofs.YtddpnhhgmfaloaaDoor
open Go.AM Ieee
set_option maxRecDepth 100000

theorem isD_46 : isD 46 = false := rfl
theorem isD_iff (b : UInt8) : isD b = true ↔ 48 ≤ b.toNat ∧ b.toNat ≤ 57 := by unfold isD; simp
theorem ok_facts {l : List UInt8} (h : okE l = true) : (hs l).all isD = true ∧ 1 ≤ (hs l).length ∧ (hs l).length ≤ 9 ∧ lead0 (hs l) = false ∧ (ts l).all isD = true ∧ (ts l).length ≤ 6 ∧ (hasDot (cutM l) = true ∧ 1 ≤ (ts l).length ∨ hasDot (cutM l) = false ∧ ts l = []) := by
  unfold okE at h
  simp only [Bool.and_eq_true, Bool.or_eq_true, Bool.not_eq_true'] at h
  obtain ⟨⟨h1, h2⟩, h3⟩ := h
  obtain ⟨a, b, c⟩ := digsB_len (lo := 1) (hi := 9) h1
  refine ⟨a, b, c, h2, ?_⟩
  rcases h3 with h3 | h3
  · have e : ts l = [] := (head_all _ h3).2
    rw [e]
    exact ⟨rfl, Nat.zero_le _, .inr ⟨h3, rfl⟩⟩
  · obtain ⟨d, e, f⟩ := digsB_len (lo := 1) (hi := 6) h3
    refine ⟨d, f, .inl ⟨?_, e⟩⟩
    cases hd : hasDot (cutM l) with
    | true => rfl
    | false =>
      have e' : ts l = [] := (head_all _ hd).2
      rw [e'] at e; simp at e

/-- Without the noughts at the end. -/
def trimZ (t : List UInt8) : List UInt8 := (t.reverse.dropWhile (· == 48)).reverse
theorem drop_rep (a : UInt8) (k : Nat) (l : List UInt8) (h : l.head? ≠ some a) : (List.replicate k a ++ l).dropWhile (· == a) = l := by
  induction k with
  | zero =>
    cases l with
    | nil => rfl
    | cons b l =>
      have : (b == a) = false := by simpa using h
      simp [this]
  | succ k ih => simp [List.replicate_succ, ih]
theorem trim_take {t : List UInt8} {r : Nat} (hr : r ≤ t.length) (h1 : ∀ j, r ≤ j → ∀ b, t[j]? = some b → b = 48) (h2 : r = 0 ∨ ∃ b, t[r - 1]? = some b ∧ b ≠ 48) : t.take r = trimZ t := by
  have e : t = t.take r ++ List.replicate (t.length - r) 48 := by
    apply List.ext_getElem?
    intro j
    by_cases hj : j < r
    · rw [List.getElem?_append_left (by rw [List.length_take]; omega), List.getElem?_take, if_pos hj]
    · rw [List.getElem?_append_right (by rw [List.length_take]; omega), List.length_take, Nat.min_eq_left hr]
      by_cases hjl : j < t.length
      · rw [List.getElem?_replicate, if_pos (by omega), List.getElem?_eq_getElem hjl]
        exact congrArg some (h1 j (by omega) _ (List.getElem?_eq_getElem hjl))
      · rw [List.getElem?_eq_none (by omega), List.getElem?_replicate, if_neg (by omega)]
  have e2 : t.reverse = List.replicate (t.length - r) 48 ++ (t.take r).reverse := by
    rw [← List.reverse_replicate, ← List.reverse_append, ← e]
  unfold trimZ
  rw [e2, drop_rep, List.reverse_reverse]
  rw [List.head?_reverse, List.getLast?_eq_getElem?, List.length_take, Nat.min_eq_left hr]
  rcases h2 with h2 | ⟨b, hb, hb48⟩
  · subst h2; simp
  · by_cases h0 : r = 0
    · subst h0; simp
    · rw [List.getElem?_take, if_pos (by omega), hb]
      simpa using hb48

def shortL (l : List UInt8) : List UInt8 := if okE l then (if hasMinus l then [45] else []) ++ hs l ++ (if trimZ (ts l) = [] then [] else 46 :: trimZ (ts l)) else l

end Go.Proofs.YtddpnhhgmfaloaaDoor
