/- Groups of variables, plainly. -/
import Derived.Test.YtplnndgdklfnfaaAmLfWork
set_option linter.all false
namespace Go.AM

def rowsB (rows : List (List Bool)) (v u : Nat) : Bool := (rows.getD v []).getD u false

theorem Rch.left_lt {g : Gram} (hg : InG g) {v u : Int} (h : Rch g v u) : 0 ≤ v ∧ v < g.vars.length := by
  induction h with
  | one h =>
    obtain ⟨i, a, h⟩ := h
    have e := h.left
    have := hg.left0 _ (List.getElem_mem h.hi)
    have := hg.left1 _ (List.getElem_mem h.hi)
    omega
  | more _ _ ih => exact ih

theorem rowsB_iff {g : Gram} (hg : InG g) {rows : List (List Bool)} (hl : rows.length = g.vars.length) (h : ∀ v r, rows[v]? = some r → GoodRow g v r) (v u : Nat) : rowsB rows v u = true ↔ Rch g v u := by
  unfold rowsB
  rw [List.getD_eq_getElem?_getD, List.getD_eq_getElem?_getD]
  cases e : rows[v]? with
  | none =>
    simp
    intro hr
    have := (hr.left_lt hg).2
    rw [List.getElem?_eq_none_iff] at e
    omega
  | some r =>
    rw [← (h v r e).mem u]
    simp
    cases r[u]? <;> simp

theorem RchB_ext {g : Gram} {R S : Nat → Nat → Bool} (hr : ∀ v u : Nat, R v u = true ↔ Rch g v u) (hs : ∀ v u : Nat, S v u = true ↔ Rch g v u) : R = S := by
  funext v u
  rw [Bool.eq_iff_iff, hr, hs]

/-- Who may begin with one another. -/
def mut2 (R : Nat → Nat → Bool) (v u : Nat) : Bool := R v u && R u v
def grp (R : Nat → Nat → Bool) (n v : Nat) : List Nat := (List.range n).filter (mut2 R v)
def leader (R : Nat → Nat → Bool) (v : Nat) : Bool := R v v && (List.range v).all fun u => !mut2 R v u
def groupsS (R : Nat → Nat → Bool) (n k : Nat) : List (List Nat) := ((List.range k).filter (leader R)).map (grp R n)

theorem groupsS_succ (R : Nat → Nat → Bool) (n k : Nat) : groupsS R n (k + 1) = groupsS R n k ++ if leader R k then [grp R n k] else [] := by
  unfold groupsS
  rw [List.range_succ, List.filter_append, List.map_append]
  congr 1
  simp only [List.filter_cons, List.filter_nil]
  split <;> rfl

theorem mut2_comm {R : Nat → Nat → Bool} {v u : Nat} : mut2 R v u = mut2 R u v := by unfold mut2; rw [Bool.and_comm]

theorem least {p : Nat → Prop} {u : Nat} (h : p u) : ∃ w, w ≤ u ∧ p w ∧ ∀ x, x < w → ¬ p x := by
  induction u using Nat.strongRecOn with
  | ind u ih =>
    by_cases hx : ∃ x, x < u ∧ p x
    · obtain ⟨x, h1, h2⟩ := hx
      obtain ⟨w, a, b, c⟩ := ih x h1 h2
      exact ⟨w, by omega, b, c⟩
    · exact ⟨u, Nat.le_refl u, h, fun x h1 h2 => hx ⟨x, h1, h2⟩⟩

/-- A variable is in a group that is there, just if one ahead of it may begin with it, and it with that. -/
theorem in_groups {R : Nat → Nat → Bool} (ht : ∀ a b c, R a b = true → R b c = true → R a c = true) {n k : Nat} (hk : k < n) : (∃ l ∈ groupsS R n k, k ∈ l) ↔ ∃ u, u < k ∧ mut2 R k u = true := by
  constructor
  · rintro ⟨l, hl, hkl⟩
    unfold groupsS at hl
    rw [List.mem_map] at hl
    obtain ⟨u, hu, rfl⟩ := hl
    rw [List.mem_filter, List.mem_range] at hu
    unfold grp at hkl
    rw [List.mem_filter] at hkl
    exact ⟨u, hu.1, by rw [mut2_comm]; exact hkl.2⟩
  · rintro ⟨u, hu, hm⟩
    obtain ⟨w, h1, h2, h3⟩ := least (p := fun u => mut2 R k u = true) hm
    have hw : w < k := by omega
    refine ⟨grp R n w, ?_, ?_⟩
    · unfold groupsS
      refine List.mem_map.2 ⟨w, List.mem_filter.2 ⟨List.mem_range.2 hw, ?_⟩, rfl⟩
      unfold leader
      rw [Bool.and_eq_true, List.all_eq_true]
      unfold mut2 at h2
      rw [Bool.and_eq_true] at h2
      refine ⟨ht w k w h2.2 h2.1, fun x hx => ?_⟩
      rw [Bool.not_eq_true']
      by_cases e : mut2 R w x = true
      · exfalso
        refine h3 x (List.mem_range.1 hx) ?_
        unfold mut2 at e ⊢
        rw [Bool.and_eq_true] at e ⊢
        exact ⟨ht k w x h2.1 e.1, ht x w k e.2 h2.2⟩
      · simpa using e
    · unfold grp
      exact List.mem_filter.2 ⟨List.mem_range.2 hk, by rw [mut2_comm]; exact h2⟩

theorem grp_lt {R : Nat → Nat → Bool} {n v x : Nat} (h : x ∈ grp R n v) : x < n := by
  unfold grp at h
  exact List.mem_range.1 (List.mem_filter.1 h).1

theorem grp_len (R : Nat → Nat → Bool) (n v : Nat) : (grp R n v).length ≤ n := by
  unfold grp
  have := List.length_filter_le (mut2 R v) (List.range n)
  rw [List.length_range] at this
  exact this

theorem groupsS_len {R : Nat → Nat → Bool} {n k : Nat} {l : List Nat} (h : l ∈ groupsS R n k) : l.length ≤ n := by
  unfold groupsS at h
  rw [List.mem_map] at h
  obtain ⟨w, _, rfl⟩ := h
  exact grp_len R n w

/-- A group as far as a variable. -/
def grpTo (R : Nat → Nat → Bool) (v k : Nat) : List Nat := (List.range k).filter (mut2 R v)
theorem grpTo_succ (R : Nat → Nat → Bool) (v k : Nat) : grpTo R v (k + 1) = if mut2 R v k then grpTo R v k ++ [k] else grpTo R v k := by
  unfold grpTo
  rw [List.range_succ, List.filter_append]
  simp only [List.filter_cons, List.filter_nil]
  split
  · rfl
  · simp
theorem grpTo_all (R : Nat → Nat → Bool) (n v : Nat) : grpTo R v n = grp R n v := rfl
theorem grpTo_len (R : Nat → Nat → Bool) (v k : Nat) : (grpTo R v k).length ≤ k := grp_len R k v

theorem leader_of {R : Nat → Nat → Bool} (ht : ∀ a b c, R a b = true → R b c = true → R a c = true) {v : Nat} (h : R v v = true) : ∃ w, w ≤ v ∧ leader R w = true ∧ mut2 R w v = true := by
  have h0 : mut2 R v v = true := by unfold mut2; rw [h]; rfl
  obtain ⟨w, h1, h2, h3⟩ := least (p := fun u => mut2 R v u = true) h0
  refine ⟨w, h1, ?_, by rw [mut2_comm]; exact h2⟩
  unfold leader
  rw [Bool.and_eq_true, List.all_eq_true]
  unfold mut2 at h2
  rw [Bool.and_eq_true] at h2
  refine ⟨ht w v w h2.2 h2.1, fun x hx => ?_⟩
  rw [Bool.not_eq_true']
  by_cases e : mut2 R w x = true
  · exfalso
    refine h3 x (List.mem_range.1 hx) ?_
    unfold mut2 at e ⊢
    rw [Bool.and_eq_true] at e ⊢
    exact ⟨ht v w x h2.1 e.1, ht x w v e.2 h2.2⟩
  · simpa using e

theorem mem_groups {R : Nat → Nat → Bool} {n k : Nat} {l : List Nat} : l ∈ groupsS R n k ↔ ∃ u, u < k ∧ leader R u = true ∧ grp R n u = l := by
  unfold groupsS
  rw [List.mem_map]
  constructor
  · rintro ⟨u, hu, e⟩
    rw [List.mem_filter, List.mem_range] at hu
    exact ⟨u, hu.1, hu.2, e⟩
  · rintro ⟨u, h1, h2, e⟩
    exact ⟨u, List.mem_filter.2 ⟨List.mem_range.2 h1, h2⟩, e⟩

theorem mem_grp {R : Nat → Nat → Bool} {n v x : Nat} : x ∈ grp R n v ↔ x < n ∧ mut2 R v x = true := by
  unfold grp
  rw [List.mem_filter, List.mem_range]

/-- All recursive variables are in groups, and no others. -/
theorem in_all {R : Nat → Nat → Bool} (ht : ∀ a b c, R a b = true → R b c = true → R a c = true) {n v : Nat} (hv : v < n) : (∃ l ∈ groupsS R n n, v ∈ l) ↔ R v v = true := by
  constructor
  · rintro ⟨l, hl, hvl⟩
    obtain ⟨u, _, _, rfl⟩ := mem_groups.1 hl
    have h := (mem_grp.1 hvl).2
    unfold mut2 at h
    rw [Bool.and_eq_true] at h
    exact ht v u v h.2 h.1
  · intro h
    obtain ⟨w, h1, h2, h3⟩ := leader_of ht h
    exact ⟨_, mem_groups.2 ⟨w, by omega, h2, rfl⟩, mem_grp.2 ⟨hv, h3⟩⟩

/-- Groups have nothing in common. -/
theorem groups_apart {R : Nat → Nat → Bool} (ht : ∀ a b c, R a b = true → R b c = true → R a c = true) {n p q v : Nat} (hpq : p < q) (hq : q < (groupsS R n n).length) (h1 : v ∈ (groupsS R n n)[p]) (h2 : v ∈ (groupsS R n n)[q]) : False := by
  have hs : ((List.range n).filter (leader R)).Pairwise (· < ·) := List.Pairwise.filter _ List.pairwise_lt_range
  have hl : (groupsS R n n).length = ((List.range n).filter (leader R)).length := by unfold groupsS; rw [List.length_map]
  have e : ∀ r (h : r < (groupsS R n n).length), (groupsS R n n)[r] = grp R n (((List.range n).filter (leader R))[r]'(by omega)) := fun r h => List.getElem_map (grp R n) (l := (List.range n).filter (leader R)) (h := h)
  rw [e p (by omega)] at h1
  rw [e q hq] at h2
  have hlt := List.pairwise_iff_getElem.1 hs p q (by omega) (by omega) hpq
  have hq2 := (List.mem_filter.1 (List.getElem_mem (l := (List.range n).filter (leader R)) (n := q) (by omega))).2
  generalize ((List.range n).filter (leader R))[p]'(by omega) = a at *
  generalize ((List.range n).filter (leader R))[q]'(by omega) = b at *
  have m1 := (mem_grp.1 h1).2
  have m2 := (mem_grp.1 h2).2
  unfold leader at hq2
  rw [Bool.and_eq_true, List.all_eq_true] at hq2
  have := hq2.2 a (List.mem_range.2 hlt)
  rw [Bool.not_eq_true'] at this
  unfold mut2 at m1 m2 this
  rw [Bool.and_eq_true] at m1 m2
  rw [ht b v a m2.1 m1.2, ht a v b m1.1 m2.2] at this
  cases this

theorem grp_up {R : Nat → Nat → Bool} {n v p q : Nat} (hpq : p < q) (hq : q < (grp R n v).length) : (grp R n v)[p] < (grp R n v)[q] := by
  have hs : (grp R n v).Pairwise (· < ·) := List.Pairwise.filter _ List.pairwise_lt_range
  exact List.pairwise_iff_getElem.1 hs p q (by omega) hq hpq

end Go.AM
