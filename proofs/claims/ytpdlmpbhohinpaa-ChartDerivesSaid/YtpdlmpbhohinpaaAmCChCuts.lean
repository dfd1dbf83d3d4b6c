/- A part of a proof. Its conditions: none. -/
import Derived.Test.YtpdlmpbhohinpaaAmCChFew
import Derived.Test.YtpdlmpbhohinpaaAmCAliveN
import Derived.Test.YtpdlmpbhohinpaaAmD
import Derived.Test.YtpdlmpbhohinpaaAmC
import Derived.Test.YtpdlmpbhohinpaaAmCChLaw
set_option linter.all false
namespace Go.Proofs.Ytpdlmpbhohinpaa
open Go.AM Go.RowKit
set_option maxRecDepth 100000
theorem inf_int : (Try.prog.info? 3).isSome = true := by kernel_rfl
def AO (H : Heap) (p : Option Addr) : Prop := ∀ x k sp, p = some ⟨x, k, sp⟩ → ∀ cs ty own, H x = .cells cs ty own → own = false
end Go.Proofs.Ytpdlmpbhohinpaa
