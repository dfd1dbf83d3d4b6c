/- A part of a proof. Its conditions: none. -/
import Derived.Test.YtpdlmpbhohinpaaAmCChFew
import Derived.Test.YtpdlmpbhohinpaaAmCAliveN
import Derived.Test.YtpdlmpbhohinpaaAmD
import Derived.Test.YtpdlmpbhohinpaaAmC
import Derived.Test.YtpdlmpbhohinpaaAmCChLaw
set_option linter.all false
namespace Go.Proofs.Ytpdlmpbhohinpaa
open Go.AM Go.RowKit
set_option maxRecDepth 100000
theorem inf_int : (Try.prog.info? 3).isSome = true := by kernel_rfl
def AO (H : Heap) (p : Option Addr) : Prop := ∀ x k sp, p = some ⟨x, k, sp⟩ → ∀ cs ty own, H x = .cells cs ty own → own = false
theorem AO.kp {α : Type} {enc : α → Value} {n n' : Nat} {H H' : Heap} {p : Option Addr} {l : List α} (h : AO H p) (hw : WF n H) (k : Kp n H n' H') (hs : RS enc H p l) : AO H' p := by
  intro x kk sp hp cs ty own hx
  rcases hs with ⟨rfl, _⟩ | ⟨x2, k2, cs2, ty2, own2, e1, e2, _⟩
  · cases hp
  · have hp' := hp
    rw [e1] at hp'
    cases hp'
    have := (k.keep x (Classical.byContradiction fun hc => by rw [hw x (by omega)] at e2; cases e2)).trans e2
    rw [hx] at this
    cases this
    exact h x _ _ hp _ _ _ e2
end Go.Proofs.Ytpdlmpbhohinpaa
