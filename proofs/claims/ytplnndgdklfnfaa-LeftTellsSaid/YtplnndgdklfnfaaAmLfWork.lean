/- Finding what can be reached, by a list of what is to be done: plainly. -/
import Derived.Test.YtplnndgdklfnfaaAmLfSpec
set_option linter.all false
namespace Go.AM

/-- A row tells what can be reached. -/
structure GoodRow (g : Gram) (v : Nat) (r : List Bool) : Prop where
  len : r.length = g.vars.length
  mem : ∀ u : Nat, r[u]? = some true ↔ Rch g v u

/-- What holds midway: `busy` is what is being done. -/
structure Work (g : Gram) (v : Nat) (r : List Bool) (todo : List Nat) (busy : Nat → Prop) : Prop where
  sound : ∀ u : Nat, r[u]? = some true → Rch g v u
  known : ∀ u, u ∈ todo → u = v ∨ r[u]? = some true
  closed : ∀ u : Nat, u = v ∨ r[u]? = some true → u ∈ todo ∨ busy u ∨ ∀ w : Nat, Beg g u w → r[w]? = some true

theorem Work.start (g : Gram) (v k : Nat) : Work g v (List.replicate k false) [v] (fun _ => False) := by
  have h0 : ∀ u : Nat, (List.replicate k false)[u]? ≠ some true := by
    intro u h
    rw [List.getElem?_replicate] at h
    split at h <;> simp at h
  refine ⟨fun u h => absurd h (h0 u), fun u h => .inl (by simpa using h), fun u h => ?_⟩
  rcases h with h | h
  · exact .inl (by simp [h])
  · exact absurd h (h0 u)

theorem Work.pop {g : Gram} {v : Nat} {r : List Bool} {todo : List Nat} {u : Nat} (h : Work g v r (todo ++ [u]) (fun _ => False)) : Work g v r todo (fun w => w = u) := by
  refine ⟨h.sound, fun w hw => h.known w (by simp [hw]), fun w hw => ?_⟩
  rcases h.closed w hw with h1 | h1 | h1
  · simp at h1
    rcases h1 with h1 | h1
    · exact .inl h1
    · exact .inr (.inl h1)
  · exact h1.elim
  · exact .inr (.inr h1)

theorem Work.push {g : Gram} {v : Nat} {r : List Bool} {todo : List Nat} {u w : Nat} (h : Work g v r todo (fun w => w = u)) (hu : u = v ∨ r[u]? = some true) (hb : Beg g u w) (hw : w < r.length) : Work g v (r.set w true) (todo ++ [w]) (fun w => w = u) := by
  have up : ∀ x : Nat, r[x]? = some true → (r.set w true)[x]? = some true := by
    intro x hx
    rw [List.getElem?_set]
    split
    · rename_i e; subst e; simp [hw]
    · exact hx
  have dn : ∀ x : Nat, (r.set w true)[x]? = some true → x = w ∨ r[x]? = some true := by
    intro x hx
    rw [List.getElem?_set] at hx
    split at hx
    · rename_i e; exact .inl e.symm
    · exact .inr hx
  have hrw : Rch g v w := by
    rcases hu with e | e
    · subst e; exact .one hb
    · exact (h.sound u e).more hb
  refine ⟨fun x hx => ?_, fun x hx => ?_, fun x hx => ?_⟩
  · rcases dn x hx with e | e
    · subst e; exact hrw
    · exact h.sound x e
  · simp at hx
    rcases hx with hx | hx
    · rcases h.known x hx with e | e
      · exact .inl e
      · exact .inr (up x e)
    · subst hx
      exact .inr (by rw [List.getElem?_set]; simp [hw])
  · by_cases e : x = w
    · exact .inl (by simp [e])
    · have hx' : x = v ∨ r[x]? = some true := by
        rcases hx with hx | hx
        · exact .inl hx
        · rcases dn x hx with h1 | h1
          · exact absurd h1 e
          · exact .inr h1
      rcases h.closed x hx' with h1 | h1 | h1
      · exact .inl (by simp [h1])
      · exact .inr (.inl h1)
      · exact .inr (.inr fun y hy => up y (h1 y hy))

theorem Work.done {g : Gram} {v : Nat} {r : List Bool} {todo : List Nat} {u : Nat} (h : Work g v r todo (fun w => w = u)) (ha : ∀ w : Nat, Beg g u w → r[w]? = some true) : Work g v r todo (fun _ => False) := by
  refine ⟨h.sound, h.known, fun w hw => ?_⟩
  rcases h.closed w hw with h1 | h1 | h1
  · exact .inl h1
  · subst h1; exact .inr (.inr ha)
  · exact .inr (.inr h1)

theorem Beg.nat {g : Gram} {v u : Int} (h : Beg g v u) : 0 ≤ u := by
  obtain ⟨i, a, h⟩ := h
  exact h.u0

theorem Beg.lt {g : Gram} (hg : InG g) {v u : Int} (h : Beg g v u) : u < g.vars.length := by
  obtain ⟨i, a, h⟩ := h
  exact h.right hg

theorem Work.good {g : Gram} {v : Nat} {r : List Bool} (h : Work g v r [] (fun _ => False)) (hl : r.length = g.vars.length) : GoodRow g v r := by
  refine ⟨hl, fun u => ⟨h.sound u, fun hr => ?_⟩⟩
  have cl : ∀ u : Nat, u = v ∨ r[u]? = some true → ∀ w : Nat, Beg g u w → r[w]? = some true := by
    intro u hu
    rcases h.closed u hu with h1 | h1 | h1
    · simp at h1
    · exact h1.elim
    · exact h1
  have key : ∀ x : Int, Rch g v x → ∀ u : Nat, x = u → r[u]? = some true := by
    intro x hx
    induction hx with
    | one hb => intro u e; subst e; exact cl v (.inl rfl) u hb
    | @more y z hy hb ih =>
      intro u e; subst e
      have hy0 : 0 ≤ y := by
        cases hy with
        | one h => exact h.nat
        | more _ h => exact h.nat
      obtain ⟨q, rfl⟩ : ∃ q : Nat, y = q := ⟨y.toNat, by omega⟩
      exact cl q (.inr (ih q rfl)) u hb
  exact key u hr u rfl

theorem count_false_le (r : List Bool) : r.count false ≤ r.length := List.count_le_length

end Go.AM
