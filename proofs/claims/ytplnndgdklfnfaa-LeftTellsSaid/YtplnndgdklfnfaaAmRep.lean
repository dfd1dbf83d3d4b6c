/- What values of the machine stand for. -/
import Derived.Test.YtplnndgdklfnfaaAmWk
set_option linter.all false
namespace Go.AM
open Go.RowKit

variable {α : Type}

/-- Where a slice of one-celled elements lies. -/
def RA (enc : α → Value) (H : Heap) (a : Option Addr) (l : List α) : Prop :=
  l ≠ [] → ∃ x k cs ty own, a = some ⟨x, k, none⟩ ∧ H x = .cells cs ty own ∧ ∀ i y, l[i]? = some y → cs[k + i]? = some (enc y)

theorem RA.mono {enc : α → Value} {n n' : Nat} {H H' : Heap} {a : Option Addr} {l : List α} (h : RA enc H a l) (hw : WF n H) (hk : Kp n H n' H') : RA enc H' a l := by
  intro hl
  obtain ⟨x, k, cs, ty, own, e1, e2, e3⟩ := h hl
  refine ⟨x, k, cs, ty, own, e1, ?_, e3⟩
  rw [hk.keep x, e2]
  apply Classical.byContradiction
  intro hx
  rw [hw x (by omega)] at e2; cases e2

theorem RA.at {enc : α → Value} {H : Heap} {a : Option Addr} {l : List α} (h : RA enc H a l) {i : Nat} (hi : i < l.length) :
    ∃ x k cs ty own, a = some ⟨x, k, none⟩ ∧ H x = .cells cs ty own ∧ cs[k + i]? = some (enc l[i]) := by
  obtain ⟨x, k, cs, ty, own, e1, e2, e3⟩ := h (by intro e; simp [e] at hi)
  exact ⟨x, k, cs, ty, own, e1, e2, e3 i _ (List.getElem?_eq_getElem hi)⟩

theorem Kp.new (n : Nat) (H : Heap) (o : AObj) : Kp n H (n + 1) (hset H n o) :=
  ⟨Nat.le_succ n, fun x hx => by rw [hset_apply, if_neg (by omega)], fun h x hx => by rw [hset_apply, if_neg (by omega)]; exact h x (by omega)⟩

theorem hset_at (H : Heap) (n : Nat) (o : AObj) : hset H n o n = o := by rw [hset_apply, if_pos rfl]
theorem hset_ne (H : Heap) (n : Nat) (o : AObj) {x : Nat} (h : x ≠ n) : hset H n o x = H x := by rw [hset_apply, if_neg h]

/-- Objects that were made since: they may change. -/
theorem Kp.set {n n1 : Nat} {H H1 : Heap} (h : Kp n H n1 H1) {x : Nat} (o : AObj) (hx : n ≤ x) (hx1 : x < n1) : Kp n H n1 (hset H1 x o) :=
  ⟨h.le, fun y hy => by rw [hset_ne _ _ _ (by omega)]; exact h.keep y hy, fun hw y hy => by rw [hset_ne _ _ _ (by omega)]; exact h.wf hw y hy⟩

end Go.AM
