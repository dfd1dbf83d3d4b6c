/- Lists of lists, that a function makes for itself. -/
import Derived.Test.YtplnndgdklfnfaaAmRun
import Derived.Test.YtplnndgdklfnfaaAmRep
set_option linter.all false
namespace Go.AM
open Go.RowKit

variable {α : Type}

/-- A slice from an object's beginning, or nil. -/
def sl (y : Nat) : Nat → Value
  | 0 => .slice none 0 0
  | m + 1 => .slice (some ⟨y, 0, none⟩) (m + 1 : Nat) (m + 1 : Nat)

theorem sl_zero (y : Nat) : sl y 0 = .slice none 0 0 := rfl
theorem sl_pos {y m : Nat} (h : m ≠ 0) : sl y m = .slice (some ⟨y, 0, none⟩) m m := by
  cases m with
  | zero => exact absurd rfl h
  | succ m => rfl

def slp (y : Nat) : Nat → Option Addr
  | 0 => none
  | _ + 1 => some ⟨y, 0, none⟩
theorem sl_eq (y m : Nat) : sl y m = .slice (slp y m) m m := by cases m <;> rfl
theorem slp_pos {y m : Nat} (h : m ≠ 0) : slp y m = some ⟨y, 0, none⟩ := by
  cases m with
  | zero => exact absurd rfl h
  | succ m => rfl

def llcells (ys : Nat → Nat) (ls : List (List α)) : List Value := ls.mapIdx fun v l => sl (ys v) l.length

theorem llcells_length (ys : Nat → Nat) (ls : List (List α)) : (llcells ys ls).length = ls.length := by simp [llcells]
theorem llcells_at (ys : Nat → Nat) {ls : List (List α)} {v : Nat} (h : v < ls.length) : (llcells ys ls)[v]? = some (sl (ys v) ls[v].length) := by
  simp [llcells, h]

def upd (ys : Nat → Nat) (v y : Nat) : Nat → Nat := fun u => if u = v then y else ys u
theorem upd_at (ys : Nat → Nat) (v y : Nat) : upd ys v y v = y := by simp [upd]
theorem upd_ne (ys : Nat → Nat) (v y : Nat) {u : Nat} (h : u ≠ v) : upd ys v y u = ys u := by simp [upd, h]

theorem llcells_set (ys : Nat → Nat) (ls : List (List α)) (v y : Nat) (l : List α) : llcells (upd ys v y) (ls.set v l) = (llcells ys ls).set v (sl y l.length) := by
  apply List.ext_getElem?
  intro i
  simp only [llcells, List.getElem?_mapIdx, List.getElem?_set, List.length_mapIdx]
  by_cases hv : v = i
  · subst hv
    by_cases hl : v < ls.length <;> simp [hl, upd_at]
  · simp only [if_neg hv]
    cases ls[i]? with
    | none => rfl
    | some l' => simp [upd_ne ys v y (Ne.symm hv)]

theorem llcells_push (ys : Nat → Nat) (ls : List (List α)) (y : Nat) (l : List α) : llcells (upd ys ls.length y) (ls ++ [l]) = llcells ys ls ++ [sl y l.length] := by
  apply List.ext_getElem?
  intro i
  simp only [llcells, List.getElem?_mapIdx, List.getElem?_append, List.length_mapIdx]
  by_cases hi : i < ls.length
  · simp [hi, upd_ne ys ls.length y (show i ≠ ls.length by omega)]
  · simp only [if_neg hi]
    by_cases h0 : i - ls.length = 0
    · have : i = ls.length := by omega
      subst this; simp [upd_at]
    · obtain ⟨q, hq⟩ : ∃ q, i - ls.length = q + 1 := ⟨i - ls.length - 1, by omega⟩
      simp [hq]

/-- A list of lists, each in an object of its own. -/
structure LL (m : Nat) (H : Heap) (x ty ety : Nat) (enc : α → List Value) (ls : List (List α)) (ys : Nat → Nat) : Prop where
  hx : H x = .cells (llcells ys ls) ty true
  hy : ∀ v (h : v < ls.length), ls[v] ≠ [] → H (ys v) = .cells (ls[v].flatMap enc) ety true
  inj : ∀ u v (hu : u < ls.length) (hv : v < ls.length), ls[u] ≠ [] → ls[v] ≠ [] → ys u = ys v → u = v
  fy : ∀ v (h : v < ls.length), ls[v] ≠ [] → m ≤ ys v
  ne : ∀ v (h : v < ls.length), ls[v] ≠ [] → ys v ≠ x

section
variable {m n n' x ty ety : Nat} {H H' : Heap} {enc : α → List Value} {ls : List (List α)} {ys : Nat → Nat}

theorem LL.keep (h : LL m H x ty ety enc ls ys) (hk : ∀ z, z = x ∨ m ≤ z → H z ≠ .dead → H' z = H z) : LL m H' x ty ety enc ls ys :=
  ⟨by rw [hk x (.inl rfl) (by rw [h.hx]; intro e; cases e), h.hx], fun v hv hn => by rw [hk _ (.inr (h.fy v hv hn)) (by rw [h.hy v hv hn]; intro e; cases e), h.hy v hv hn], h.inj, h.fy, h.ne⟩

theorem live_lt (hw : WF n H) {z : Nat} (h : H z ≠ .dead) : z < n := by
  apply Classical.byContradiction
  intro hc
  exact h (hw z (by omega))

theorem live_of {z : Nat} {cs : List Value} {t : TypeId} {own : Bool} (h : H z = .cells cs t own) : H z ≠ .dead := by rw [h]; intro e; cases e

theorem LL.kp (h : LL m H x ty ety enc ls ys) (hw : WF n H) (hk : Kp n H n' H') : LL m H' x ty ety enc ls ys := h.keep fun z _ hz => hk.keep z (live_lt hw hz)
theorem LL.ltx (h : LL m H x ty ety enc ls ys) (hw : WF n H) : x < n := live_lt hw (live_of h.hx)
theorem LL.lty (h : LL m H x ty ety enc ls ys) (hw : WF n H) {v : Nat} (hv : v < ls.length) (hn : ls[v] ≠ []) : ys v < n := live_lt hw (live_of (h.hy v hv hn))
theorem LL.at (h : LL m H x ty ety enc ls ys) {v : Nat} (hv : v < ls.length) : (llcells ys ls)[v]? = some (sl (ys v) ls[v].length) := llcells_at ys hv

/-- One list is put into another object; the object that it was in may be gone. -/
theorem LL.put (h : LL m H x ty ety enc ls ys) {v y : Nat} {l : List α} (hy : l ≠ [] → H' y = .cells (l.flatMap enc) ety true) (hm : l ≠ [] → m ≤ y) (hyx : y ≠ x)
    (hx : H' x = .cells ((llcells ys ls).set v (sl y l.length)) ty true) (hnew : ∀ u (hu : u < ls.length), u ≠ v → ls[u] ≠ [] → ys u ≠ y)
    (hk : ∀ u (hu : u < ls.length), u ≠ v → ls[u] ≠ [] → H' (ys u) = H (ys u)) : LL m H' x ty ety enc (ls.set v l) (upd ys v y) := by
  have key : ∀ u (hu : u < (ls.set v l).length), u ≠ v → ∃ hu' : u < ls.length, (ls.set v l)[u] = ls[u] := fun u hu hne => ⟨by simpa using hu, by rw [List.getElem_set_ne (Ne.symm hne)]⟩
  refine ⟨by rw [hx, llcells_set], fun u hu hn => ?_, fun u w hu hw hn hn' e => ?_, fun u hu hn => ?_, fun u hu hn => ?_⟩
  · by_cases e : u = v
    · subst e
      simp only [List.getElem_set_self] at hn ⊢
      rw [upd_at]; exact hy hn
    · obtain ⟨hu', e'⟩ := key u hu e
      rw [e'] at hn ⊢
      rw [upd_ne _ _ _ e, hk u hu' e hn]
      exact h.hy u hu' hn
  · by_cases e1 : u = v
    · by_cases e2 : w = v
      · omega
      · exfalso
        obtain ⟨hw', e'⟩ := key w hw e2
        rw [e'] at hn'
        rw [e1, upd_at, upd_ne _ _ _ e2] at e
        exact hnew w hw' e2 hn' e.symm
    · obtain ⟨hu', e'⟩ := key u hu e1
      rw [e'] at hn
      by_cases e2 : w = v
      · exfalso
        rw [e2, upd_at, upd_ne _ _ _ e1] at e
        exact hnew u hu' e1 hn e
      · obtain ⟨hw', e''⟩ := key w hw e2
        rw [e''] at hn'
        rw [upd_ne _ _ _ e1, upd_ne _ _ _ e2] at e
        exact h.inj u w hu' hw' hn hn' e
  · by_cases e : u = v
    · subst e
      simp only [List.getElem_set_self] at hn
      rw [upd_at]; exact hm hn
    · obtain ⟨hu', e'⟩ := key u hu e
      rw [e'] at hn
      rw [upd_ne _ _ _ e]; exact h.fy u hu' hn
  · by_cases e : u = v
    · subst e; rw [upd_at]; exact hyx
    · obtain ⟨hu', e'⟩ := key u hu e
      rw [e'] at hn
      rw [upd_ne _ _ _ e]; exact h.ne u hu' hn

/-- One list more, in a list that is made anew. -/
theorem LL.push (h : ls ≠ [] → LL m H x ty ety enc ls ys) {x' y : Nat} {l : List α} (hy : l ≠ [] → H' y = .cells (l.flatMap enc) ety true) (hm : l ≠ [] → m ≤ y) (hyx : l ≠ [] → y ≠ x')
    (hx : H' x' = .cells (llcells ys ls ++ [sl y l.length]) ty true) (hnew : ∀ u (hu : u < ls.length), ls[u] ≠ [] → ys u ≠ y) (hx' : ∀ u (hu : u < ls.length), ls[u] ≠ [] → ys u ≠ x')
    (hk : ∀ u (hu : u < ls.length), ls[u] ≠ [] → H' (ys u) = H (ys u)) : LL m H' x' ty ety enc (ls ++ [l]) (upd ys ls.length y) := by
  have ne : ∀ u, u < ls.length → ls ≠ [] := fun u hu e => by rw [e] at hu; simp at hu
  have key : ∀ u (hu : u < (ls ++ [l]).length), (∃ h : u < ls.length, (ls ++ [l])[u] = ls[u]) ∨ u = ls.length ∧ (ls ++ [l])[u] = l := by
    intro u hu
    by_cases e : u < ls.length
    · exact .inl ⟨e, List.getElem_append_left e⟩
    · have : u = ls.length := by simp at hu; omega
      subst this
      exact .inr ⟨rfl, by simp⟩
  refine ⟨by rw [hx, llcells_push], fun u hu hn => ?_, fun u w hu hw hn hn' e => ?_, fun u hu hn => ?_, fun u hu hn => ?_⟩
  · rcases key u hu with ⟨h1, e1⟩ | ⟨rfl, e1⟩
    · rw [e1] at hn ⊢
      rw [upd_ne _ _ _ (by omega), hk u h1 hn]
      exact (h (ne u h1)).hy u h1 hn
    · rw [e1] at hn ⊢
      rw [upd_at]; exact hy hn
  · rcases key u hu with ⟨h1, e1⟩ | ⟨rfl, e1⟩ <;> rcases key w hw with ⟨h2, e2⟩ | ⟨rfl, e2⟩
    · rw [e1] at hn; rw [e2] at hn'
      rw [upd_ne _ _ _ (by omega), upd_ne _ _ _ (by omega)] at e
      exact (h (ne u h1)).inj u w h1 h2 hn hn' e
    · rw [e1] at hn
      rw [upd_ne _ _ _ (by omega), upd_at] at e
      exact absurd e (hnew u h1 hn)
    · rw [e2] at hn'
      rw [upd_at, upd_ne _ _ _ (by omega)] at e
      exact absurd e.symm (hnew w h2 hn')
    · rfl
  · rcases key u hu with ⟨h1, e1⟩ | ⟨rfl, e1⟩
    · rw [e1] at hn
      rw [upd_ne _ _ _ (by omega)]; exact (h (ne u h1)).fy u h1 hn
    · rw [e1] at hn
      rw [upd_at]; exact hm hn
  · rcases key u hu with ⟨h1, e1⟩ | ⟨rfl, e1⟩
    · rw [e1] at hn
      rw [upd_ne _ _ _ (by omega)]; exact hx' u h1 hn
    · rw [e1] at hn
      rw [upd_at]; exact hyx hn
end

/-- Nil lists. -/
theorem rep_nil (k : Nat) : rep k [Value.slice none 0 0] = llcells (fun _ => 0) (List.replicate k ([] : List α)) := by
  apply List.ext_getElem?
  intro i
  have e : rep k [Value.slice none 0 0] = List.replicate k (.slice none 0 0) := by
    induction k with
    | zero => rfl
    | succ k ih => rw [List.replicate_succ, ← ih]; rfl
  rw [e, List.getElem?_replicate]
  simp only [llcells, List.getElem?_mapIdx, List.getElem?_replicate]
  split <;> rfl

theorem LL.new {m x ty ety : Nat} {H : Heap} {enc : α → List Value} {k : Nat} (hx : H x = .cells (rep k [Value.slice none 0 0]) ty true) : LL m H x ty ety enc (List.replicate k ([] : List α)) (fun _ => 0) := by
  have key : ∀ v (h : v < (List.replicate k ([] : List α)).length), (List.replicate k ([] : List α))[v] = [] := fun v h => by simp
  exact ⟨by rw [hx, rep_nil], fun v h hn => absurd (key v h) hn, fun u v hu hv hn => absurd (key u hu) hn, fun v h hn => absurd (key v h) hn, fun v h hn => absurd (key v h) hn⟩

end Go.AM
