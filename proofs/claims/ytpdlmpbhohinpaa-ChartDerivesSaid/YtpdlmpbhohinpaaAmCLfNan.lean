/- A part of a proof. Its conditions: none. -/
import Derived.Test.YtpdlmpbhohinpaaAmCNan
set_option linter.all false
namespace Go.Proofs.Ytpdlmpbhohinpaa
open Go.AM
set_option maxRecDepth 100000
theorem read_inf (n : Nat) (H : Heap) : Gives Try.prog 93 [.string ⟨#[105, 110, 102]⟩] n H fun v n' H' => v = .tuple #[.float .f64 9218868437227405312, .bool true] ∧ n' = n ∧ H' = H :=
  Gives.ev orders oks (k := 50) (by kernel_rfl)
theorem read_ninf (n : Nat) (H : Heap) : Gives Try.prog 93 [.string ⟨#[45, 105, 110, 102]⟩] n H fun v n' H' => v = .tuple #[.float .f64 18442240474082181120, .bool true] ∧ n' = n ∧ H' = H :=
  Gives.ev orders oks (k := 50) (by kernel_rfl)
end Go.Proofs.Ytpdlmpbhohinpaa
