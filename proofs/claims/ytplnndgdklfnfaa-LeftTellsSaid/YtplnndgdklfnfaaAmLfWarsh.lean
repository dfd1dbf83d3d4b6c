/- Warshall's rounds, plainly. -/
import Derived.Test.YtplnndgdklfnfaaAmLfGrp
set_option linter.all false
namespace Go.AM

def Pth (E : Nat → Nat → Prop) : Nat → Nat → Nat → Prop
  | 0, v, u => E v u
  | k + 1, v, u => Pth E k v u ∨ Pth E k v k ∧ Pth E k k u

theorem Pth.up {E : Nat → Nat → Prop} {k v u : Nat} (h : Pth E k v u) : Pth E (k + 1) v u := .inl h
theorem Pth.le {E : Nat → Nat → Prop} {k l v u : Nat} (hkl : k ≤ l) (h : Pth E k v u) : Pth E l v u := by
  induction l with
  | zero => have : k = 0 := by omega
            subst this; exact h
  | succ l ih =>
    by_cases e : k = l + 1
    · subst e; exact h
    · exact (ih (by omega)).up

theorem Pth.trans {E : Nat → Nat → Prop} : ∀ {k w v u : Nat}, w < k → Pth E k v w → Pth E k w u → Pth E k v u := by
  intro k
  induction k with
  | zero => intro w v u h; omega
  | succ k ih =>
    intro w v u hw h1 h2
    by_cases e : w = k
    · subst e
      have a : Pth E w v w := by rcases h1 with h | ⟨h, _⟩ <;> exact h
      have b : Pth E w w u := by rcases h2 with h | ⟨_, h⟩ <;> exact h
      exact .inr ⟨a, b⟩
    · have hwk : w < k := by omega
      rcases h1 with h1 | ⟨h1, h1'⟩ <;> rcases h2 with h2 | ⟨h2, h2'⟩
      · exact .inl (ih hwk h1 h2)
      · exact .inr ⟨ih hwk h1 h2, h2'⟩
      · exact .inr ⟨h1, ih hwk h1' h2⟩
      · exact .inr ⟨h1, h2'⟩

theorem rch_pth {g : Gram} (hg : InG g) {v : Nat} {x : Int} (h : Rch g v x) : ∀ u : Nat, x = u → Pth (fun v u => Beg g v u) g.vars.length v u := by
  induction h with
  | one h => intro u e; subst e; exact Pth.le (Nat.zero_le _) (show Pth (fun v u : Nat => Beg g v u) 0 v u from h)
  | @more y z hy hb ih =>
    intro u e; subst e
    have hy0 : 0 ≤ y ∧ y < g.vars.length := by
      cases hy with
      | one h => exact ⟨h.nat, h.lt hg⟩
      | more _ h => exact ⟨h.nat, h.lt hg⟩
    obtain ⟨q, rfl⟩ : ∃ q : Nat, y = q := ⟨y.toNat, by omega⟩
    exact Pth.trans (w := q) (by omega) (ih q rfl) (Pth.le (Nat.zero_le _) (show Pth (fun v u : Nat => Beg g v u) 0 q u from hb))

theorem rowsB_set {rows : List (List Bool)} {v u : Nat} {b : Bool} (hv : v < rows.length) (hu : u < rows[v].length) (x y : Nat) : rowsB (rows.set v (rows[v].set u b)) x y = if x = v ∧ y = u then b else rowsB rows x y := by
  unfold rowsB
  by_cases hx : x = v
  · subst hx
    have e : (rows.set x (rows[x].set u b)).getD x [] = rows[x].set u b := by
      rw [List.getD_eq_getElem?_getD, List.getElem?_set]; simp [hv]
    have e2 : rows.getD x [] = rows[x] := by rw [List.getD_eq_getElem?_getD, List.getElem?_eq_getElem hv]; rfl
    rw [e, e2]
    by_cases hy : y = u
    · subst hy
      rw [List.getD_eq_getElem?_getD, List.getElem?_set]; simp [hu]
    · rw [List.getD_eq_getElem?_getD, List.getElem?_set, if_neg (fun e => hy e.symm), if_neg (fun e => hy e.2), List.getD_eq_getElem?_getD]
  · have e : (rows.set v (rows[v].set u b)).getD x [] = rows.getD x [] := by
      rw [List.getD_eq_getElem?_getD, List.getElem?_set, if_neg (fun e => hx e.symm), List.getD_eq_getElem?_getD]
    rw [e, if_neg (fun e => hx e.1)]

theorem rowsB_at {rows : List (List Bool)} {x y : Nat} (hx : x < rows.length) (hy : y < rows[x].length) : rowsB rows x y = rows[x][y] := by
  simp [rowsB, hx, hy]
theorem rowsB_lt {rows : List (List Bool)} {x y : Nat} (h : rowsB rows x y = true) : ∃ hx : x < rows.length, y < rows[x].length := by
  unfold rowsB at h
  by_cases hx : x < rows.length
  · refine ⟨hx, ?_⟩
    apply Classical.byContradiction
    intro hc
    have e : rows.getD x [] = rows[x] := by simp [hx]
    rw [e, List.getD_eq_getElem?_getD, List.getElem?_eq_none (by omega)] at h
    simp at h
  · have e : rows.getD x [] = [] := by simp [hx]
    rw [e] at h
    simp at h

/-- What holds midway: at round `k`, at the place `v`, `u`. -/
structure Warsh (g : Gram) (M : Nat → Nat → Bool) (k v u : Nat) : Prop where
  sound : ∀ x y : Nat, M x y = true → Rch g x y
  old : ∀ x y, x < g.vars.length → y < g.vars.length → Pth (fun v u => Beg g v u) k x y → M x y = true
  new : ∀ x y, x < g.vars.length → y < g.vars.length → (x < v ∨ x = v ∧ y < u) → Pth (fun v u => Beg g v u) (k + 1) x y → M x y = true

theorem Warsh.step {g : Gram} {M M' : Nat → Nat → Bool} {k v u : Nat} (h : Warsh g M k v u) (hv : v < g.vars.length) (hu : u < g.vars.length) (hk : k < g.vars.length) (hM : ∀ x y, M' x y = if x = v ∧ y = u then (M v u || M v k && M k u) else M x y) : Warsh g M' k v (u + 1) := by
  have up : ∀ x y, M x y = true → M' x y = true := by
    intro x y e
    rw [hM]
    split
    · rename_i h1; rw [h1.1, h1.2] at e; rw [e]; rfl
    · exact e
  refine ⟨fun x y e => ?_, fun x y hx hy hp => up x y (h.old x y hx hy hp), fun x y hx hy hb hp => ?_⟩
  · rw [hM] at e
    split at e
    · rename_i h1
      rw [h1.1, h1.2]
      rw [Bool.or_eq_true, Bool.and_eq_true] at e
      rcases e with e | ⟨e1, e2⟩
      · exact h.sound v u e
      · exact (h.sound v k e1).trans (h.sound k u e2)
    · exact h.sound x y e
  · by_cases h1 : x = v ∧ y = u
    · rw [hM, if_pos h1]
      rw [h1.1, h1.2] at hp
      rw [Bool.or_eq_true, Bool.and_eq_true]
      rcases hp with hp | ⟨hp, hq⟩
      · exact .inl (h.old v u hv hu hp)
      · exact .inr ⟨h.old v k hv hk hp, h.old k u hk hu hq⟩
    · exact up x y (h.new x y hx hy (by omega) hp)

theorem Warsh.row {g : Gram} {M : Nat → Nat → Bool} {k v : Nat} (h : Warsh g M k v g.vars.length) : Warsh g M k (v + 1) 0 :=
  ⟨h.sound, h.old, fun x y hx hy hb hp => h.new x y hx hy (by omega) hp⟩
theorem Warsh.round {g : Gram} {M : Nat → Nat → Bool} {k : Nat} (h : Warsh g M k g.vars.length 0) : Warsh g M (k + 1) 0 0 :=
  ⟨h.sound, fun x y hx hy hp => h.new x y hx hy (.inl hx) hp, fun x y hx hy hb => by omega⟩
theorem Warsh.start {g : Gram} {M : Nat → Nat → Bool} (h : ∀ x y : Nat, x < g.vars.length → y < g.vars.length → (M x y = true ↔ Beg g x y)) (h0 : ∀ x y, M x y = true → x < g.vars.length ∧ y < g.vars.length) : Warsh g M 0 0 0 :=
  ⟨fun x y e => .one ((h x y (h0 x y e).1 (h0 x y e).2).1 e), fun x y hx hy hp => (h x y hx hy).2 hp, fun x y hx hy hb => by omega⟩
theorem Warsh.done {g : Gram} (hg : InG g) {M : Nat → Nat → Bool} (h : Warsh g M g.vars.length 0 0) (v u : Nat) : M v u = true ↔ Rch g v u := by
  refine ⟨h.sound v u, fun hr => ?_⟩
  have h1 := hr.left_lt hg
  have h2 : (u : Int) < g.vars.length := by
    cases hr with
    | one h => exact h.lt hg
    | more _ h => exact h.lt hg
  exact h.old v u (by omega) (by omega) (rch_pth hg hr u rfl)

end Go.AM
