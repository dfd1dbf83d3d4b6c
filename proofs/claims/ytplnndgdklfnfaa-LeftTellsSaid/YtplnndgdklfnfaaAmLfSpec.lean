/- What layers 9 and 11 tell, plainly: which variables vanish, which ones may stand first. -/
import Derived.Test.YtplnndgdklfnfaaAmGram
set_option linter.all false
namespace Go.AM

/-- Variables that vanish. -/
inductive Nul (g : Gram) : Int → Prop
  | mk (i : Nat) (h : i < g.rules.length) (h0 : ∀ s ∈ g.rules[i].right, 0 ≤ s) (h1 : ∀ s ∈ g.rules[i].right, Nul g s) : Nul g g.rules[i].left

/-- Variables that become words. -/
inductive Prd (g : Gram) : Int → Prop
  | mk (i : Nat) (h : i < g.rules.length) (h1 : ∀ s ∈ g.rules[i].right, 0 ≤ s → Prd g s) : Prd g g.rules[i].left

/-- What finding by rounds comes to. -/
inductive Der (rb : GRule → List Bool → Bool) (rules : List GRule) (hs : List Bool) : List Bool → Prop
  | refl : Der rb rules hs hs
  | step {h1 : List Bool} (d : Der rb rules hs h1) (r : GRule) (hr : r ∈ rules) (hb : rb r h1 = true) : Der rb rules hs (h1.set r.left.toNat true)

theorem Der.length {rb : GRule → List Bool → Bool} {rules : List GRule} {hs h1 : List Bool} (d : Der rb rules hs h1) : h1.length = hs.length := by
  induction d with
  | refl => rfl
  | step d r hr hb ih => rw [List.length_set, ih]

/-- Do all symbols vanish? -/
def nulB (right : List Int) (hs : List Bool) : Bool := right.all fun s => decide (0 ≤ s) && hs.getD s.toNat false
def prdB (right : List Int) (hs : List Bool) : Bool := right.all fun s => decide (s < 0) || hs.getD s.toNat false

/-- Variables of rules are variables. -/
structure InG (g : Gram) : Prop where
  left0 : ∀ r ∈ g.rules, 0 ≤ r.left
  left1 : ∀ r ∈ g.rules, r.left < g.vars.length
  right : ∀ r ∈ g.rules, ∀ s ∈ r.right, s < g.vars.length
  rightT : ∀ r ∈ g.rules, ∀ s ∈ r.right, s < 0 → -s - 1 < g.terms.length

def hold (hs : List Bool) (v : Int) : Prop := 0 ≤ v ∧ hs.getD v.toNat false = true

theorem hold_set {hs : List Bool} {w v : Int} (hw : 0 ≤ w) (h : hold (hs.set w.toNat true) v) : hold hs v ∨ v = w := by
  obtain ⟨h0, h⟩ := h
  rw [List.getD_eq_getElem?_getD, List.getElem?_set] at h
  by_cases e : w.toNat = v.toNat
  · exact .inr (by omega)
  · rw [if_neg e] at h
    exact .inl ⟨h0, by rwa [List.getD_eq_getElem?_getD]⟩

theorem nulB_hold {right : List Int} {hs : List Bool} : nulB right hs = true ↔ ∀ s ∈ right, hold hs s := by
  unfold nulB hold
  rw [List.all_eq_true]
  simp
theorem prdB_hold {right : List Int} {hs : List Bool} : prdB right hs = true ↔ ∀ s ∈ right, 0 ≤ s → hold hs s := by
  unfold prdB hold
  rw [List.all_eq_true]
  constructor
  · intro h s hs h0
    have := h s hs
    simp at this
    exact ⟨h0, by rcases this with h | h; omega; simpa using h⟩
  · intro h s hs
    rcases Int.lt_or_le s 0 with h0 | h0
    · simp [h0]
    · have := (h s hs h0).2
      simp at this
      simp [this]

theorem der_nul {g : Gram} (hg : InG g) {n : Nat} {hs : List Bool} (d : Der (fun r => nulB r.right) g.rules (List.replicate n false) hs) : ∀ v, hold hs v → Nul g v := by
  induction d with
  | refl =>
    intro v h
    exfalso
    have := h.2
    rw [List.getD_eq_getElem?_getD, List.getElem?_replicate] at this
    split at this <;> simp at this
  | step d r hr hb ih =>
    intro v h
    rcases hold_set (hg.left0 r hr) h with h | rfl
    · exact ih v h
    · obtain ⟨i, hi, rfl⟩ := List.getElem_of_mem hr
      exact .mk i hi (fun s hs => ((nulB_hold.1 hb) s hs).1) (fun s hs => ih s ((nulB_hold.1 hb) s hs))

theorem closed_nul {g : Gram} (hg : InG g) {hs : List Bool} (hc : ∀ r ∈ g.rules, hs.getD r.left.toNat false = true ∨ nulB r.right hs = false) : ∀ v, Nul g v → hold hs v := by
  intro v h
  induction h with
  | mk i h h0 h1 ih =>
    have hm := List.getElem_mem h
    rcases hc _ hm with e | e
    · exact ⟨hg.left0 _ hm, e⟩
    · rw [nulB_hold.2 fun s hs => ih s hs] at e; cases e

theorem der_prd {g : Gram} (hg : InG g) {n : Nat} {hs : List Bool} (d : Der (fun r => prdB r.right) g.rules (List.replicate n false) hs) : ∀ v, hold hs v → Prd g v := by
  induction d with
  | refl =>
    intro v h
    exfalso
    have := h.2
    rw [List.getD_eq_getElem?_getD, List.getElem?_replicate] at this
    split at this <;> simp at this
  | step d r hr hb ih =>
    intro v h
    rcases hold_set (hg.left0 r hr) h with h | rfl
    · exact ih v h
    · obtain ⟨i, hi, rfl⟩ := List.getElem_of_mem hr
      exact .mk i hi (fun s hs h0 => ih s ((prdB_hold.1 hb) s hs h0))

theorem closed_prd {g : Gram} (hg : InG g) {hs : List Bool} (hc : ∀ r ∈ g.rules, hs.getD r.left.toNat false = true ∨ prdB r.right hs = false) : ∀ v, Prd g v → hold hs v := by
  intro v h
  induction h with
  | mk i h h1 ih =>
    have hm := List.getElem_mem h
    rcases hc _ hm with e | e
    · exact ⟨hg.left0 _ hm, e⟩
    · rw [prdB_hold.2 fun s hs h0 => ih s hs h0] at e; cases e

/-- A step from a variable to one that may stand first then. -/
structure Edg (g : Gram) (v : Int) (i at_ : Nat) (u : Int) : Prop where
  hi : i < g.rules.length
  left : g.rules[i].left = v
  hat : g.rules[i].right[at_]? = some u
  u0 : 0 ≤ u
  nul : ∀ q, q < at_ → ∀ s, g.rules[i].right[q]? = some s → Nul g s

def Beg (g : Gram) (v u : Int) : Prop := ∃ i at_, Edg g v i at_ u

/-- One step or more. -/
inductive Rch (g : Gram) (v : Int) : Int → Prop
  | one {u : Int} (h : Beg g v u) : Rch g v u
  | more {u w : Int} (h : Rch g v u) (k : Beg g u w) : Rch g v w

theorem Rch.trans {g : Gram} {u v w : Int} (a : Rch g u v) (b : Rch g v w) : Rch g u w := by
  induction b with
  | one h => exact a.more h
  | more h k ih => exact ih.more k

theorem Edg.right {g : Gram} {v u : Int} {i at_ : Nat} (h : Edg g v i at_ u) (hg : InG g) : u < g.vars.length :=
  hg.right _ (List.getElem_mem h.hi) _ (List.mem_of_getElem? h.hat)

end Go.AM
