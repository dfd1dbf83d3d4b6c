/- Finding by rounds that all go through the same state: plainly. -/
import Derived.Test.YtplnndgdklfnfaaAmLfSpec
set_option linter.all false
namespace Go.AM

/-- What a round makes of a row. -/
structure RoundTo (rb : GRule → List Bool → Bool) (rules : List GRule) (k : Nat) (hs nx : List Bool) : Prop where
  len : nx.length = hs.length
  mem : ∀ v : Nat, v < hs.length → (nx.getD v false = true ↔ hs.getD v false = true ∨ ∃ i, ∃ h : i < rules.length, i < k ∧ rules[i].left = v ∧ rb rules[i] hs = true)

def ClosedR (rb : GRule → List Bool → Bool) (rules : List GRule) (hs : List Bool) : Prop := ∀ r ∈ rules, hs.getD r.left.toNat false = true ∨ rb r hs = false

theorem RoundTo.start (rb : GRule → List Bool → Bool) (rules : List GRule) (hs : List Bool) : RoundTo rb rules 0 hs hs := by
  refine ⟨rfl, fun v hv => ⟨.inl, ?_⟩⟩
  rintro (h | ⟨i, _, h, _⟩)
  · exact h
  · omega

theorem RoundTo.skip {rb : GRule → List Bool → Bool} {rules : List GRule} {k : Nat} {hs nx : List Bool} (h : RoundTo rb rules k hs nx) (hk : k < rules.length) (hb : rb rules[k] hs = false) : RoundTo rb rules (k + 1) hs nx := by
  refine ⟨h.len, fun v hv => (h.mem v hv).trans ?_⟩
  constructor
  · rintro (e | ⟨i, h1, h2, h3⟩)
    · exact .inl e
    · exact .inr ⟨i, h1, by omega, h3⟩
  · rintro (e | ⟨i, h1, h2, h3, h4⟩)
    · exact .inl e
    · by_cases e : i = k
      · subst e; rw [hb] at h4; cases h4
      · exact .inr ⟨i, h1, by omega, h3, h4⟩

theorem RoundTo.take {rb : GRule → List Bool → Bool} {rules : List GRule} {k l : Nat} {hs nx : List Bool} (h : RoundTo rb rules k hs nx) (hk : k < rules.length) (hl : rules[k].left = l) (hll : l < hs.length) (hb : rb rules[k] hs = true) : RoundTo rb rules (k + 1) hs (nx.set l true) := by
  refine ⟨by rw [List.length_set, h.len], fun v hv => ?_⟩
  have hvn : v < nx.length := by rw [h.len]; exact hv
  rw [List.getD_eq_getElem?_getD, List.getElem?_set]
  by_cases e : l = v
  · subst e
    simp [hvn]
    exact .inr ⟨k, by omega, hk, hl, hb⟩
  · rw [if_neg e, ← List.getD_eq_getElem?_getD, h.mem v hv]
    constructor
    · rintro (e | ⟨i, h1, h2, h3⟩)
      · exact .inl e
      · exact .inr ⟨i, h1, by omega, h3⟩
    · rintro (e' | ⟨i, h1, h2, h3, h4⟩)
      · exact .inl e'
      · by_cases e2 : i = k
        · subst e2
          rw [hl] at h3
          exact absurd (by omega) e
        · exact .inr ⟨i, h1, by omega, h3, h4⟩

theorem count_le_of {hs nx : List Bool} (hl : nx.length = hs.length) (h : ∀ v, v < hs.length → hs.getD v false = true → nx.getD v false = true) : hs.count true ≤ nx.count true := by
  induction hs generalizing nx with
  | nil => simp
  | cons a hs ih =>
    match nx, hl with
    | b :: nx, hl =>
      have h0 := h 0 (by simp)
      have h1 := ih (nx := nx) (by simpa using hl) (fun v hv e => by
        have := h (v + 1) (by simpa using hv) (by simpa using e)
        simpa using this)
      simp at h0
      cases a <;> cases b <;> simp_all <;> omega

theorem count_lt_of {hs nx : List Bool} (hl : nx.length = hs.length) (h : ∀ v, v < hs.length → hs.getD v false = true → nx.getD v false = true) {w : Nat} (hw : w < hs.length) (h1 : hs.getD w false = false) (h2 : nx.getD w false = true) : hs.count true < nx.count true := by
  induction hs generalizing nx w with
  | nil => simp at hw
  | cons a hs ih =>
    match nx, hl with
    | b :: nx, hl =>
      have h0 := h 0 (by simp)
      have hr : ∀ v, v < hs.length → hs.getD v false = true → nx.getD v false = true := fun v hv e => by
        have := h (v + 1) (by simpa using hv) (by simpa using e)
        simpa using this
      cases w with
      | zero =>
        simp at h1 h2
        subst h1 h2
        have := count_le_of (by simpa using hl) hr
        simp; omega
      | succ w =>
        have := ih (nx := nx) (w := w) (by simpa using hl) hr (by simpa using hw) (by simpa using h1) (by simpa using h2)
        simp at h0
        cases a <;> cases b <;> simp_all <;> omega

/-- A whole round: either all is found, or one more is. -/
theorem RoundTo.next {rb : GRule → List Bool → Bool} {rules : List GRule} {hs nx : List Bool} {n : Nat} (h : RoundTo rb rules rules.length hs nx) (hleft : ∀ r ∈ rules, 0 ≤ r.left ∧ r.left < hs.length) (hp : ClosedR rb rules hs ∨ n ≤ hs.count true) :
    ClosedR rb rules nx ∨ n + 1 ≤ nx.count true := by
  have up : ∀ v, v < hs.length → hs.getD v false = true → nx.getD v false = true := fun v hv e => (h.mem v hv).2 (.inl e)
  by_cases hc : ClosedR rb rules hs
  · left
    have e : nx = hs := by
      apply List.ext_getElem?
      intro i
      by_cases hi : i < hs.length
      · have hin : i < nx.length := by rw [h.len]; exact hi
        have := h.mem i hi
        rw [List.getElem?_eq_getElem hi, List.getElem?_eq_getElem hin]
        simp only [List.getD_eq_getElem?_getD, List.getElem?_eq_getElem hi, List.getElem?_eq_getElem hin, Option.getD_some] at this
        congr 1
        rw [Bool.eq_iff_iff, this]
        refine ⟨?_, .inl⟩
        rintro (e | ⟨q, h1, _, h3, h4⟩)
        · exact e
        · rcases hc _ (List.getElem_mem h1) with e | e
          · rw [h3] at e
            simpa [hi] using e
          · rw [e] at h4; cases h4
      · rw [List.getElem?_eq_none (l := nx) (by rw [h.len]; omega), List.getElem?_eq_none (l := hs) (by omega)]
    rw [e]; exact hc
  · right
    rcases hp with hp | hp
    · exact absurd hp hc
    · have : ∃ r ∈ rules, hs.getD r.left.toNat false = false ∧ rb r hs = true := by
        apply Classical.byContradiction
        intro hn
        refine hc fun r hr => ?_
        by_cases e1 : hs.getD r.left.toNat false = true
        · exact .inl e1
        · by_cases e2 : rb r hs = true
          · exact absurd ⟨r, hr, by simpa using e1, e2⟩ hn
          · exact .inr (by simpa using e2)
      obtain ⟨r, hr, e1, e2⟩ := this
      obtain ⟨i, hi, rfl⟩ := List.getElem_of_mem hr
      have hl := hleft _ hr
      have hw : rules[i].left.toNat < hs.length := by omega
      have := count_lt_of h.len up hw e1 ((h.mem _ hw).2 (.inr ⟨i, hi, hi, by omega, e2⟩))
      omega

theorem closed_full {rb : GRule → List Bool → Bool} {rules : List GRule} {hs : List Bool} (hleft : ∀ r ∈ rules, 0 ≤ r.left ∧ r.left < hs.length) (hp : ClosedR rb rules hs ∨ hs.length ≤ hs.count true) : ClosedR rb rules hs := by
  rcases hp with h | h
  · exact h
  · intro r hr
    left
    have hl := hleft r hr
    have hall : ∀ b ∈ hs, true = b := List.count_eq_length.1 (Nat.le_antisymm List.count_le_length h)
    have hw : r.left.toNat < hs.length := by omega
    rw [List.getD_eq_getElem?_getD, List.getElem?_eq_getElem hw]
    exact (hall _ (List.getElem_mem hw)).symm

end Go.AM
