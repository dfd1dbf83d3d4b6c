/- A part of a proof. Its conditions: none. -/
import Derived.Test.YtplnndgdklfnfaaAmLeftFacts
import Derived.Test.YtplnndgdklfnfaaAmC
import Derived.Test.YtplnndgdklfnfaaAmD
set_option linter.all false
namespace Go.Proofs.Ytplnndgdklfnfaa
open Go.AM

/-- THE DOCUMENT's EXAMPLE: the kernel goes through it. -/
theorem alive_ev : (evCall Try.prog (fun g => fns.contains g) 20000 0 7 [] 0 (fun _ => .dead)).map (·.1) = some (.bool true) := by kernel_rfl

theorem alive_gives (n : Nat) (H : Heap) : Gives Try.prog 7 [] n H fun v n' H' => v = .bool true ∧ n' = n ∧ H' = H := by
  have h := alive_ev
  cases he : evCall Try.prog (fun g => fns.contains g) 20000 0 7 [] 0 (fun _ => .dead) with
  | none => rw [he] at h; cases h
  | some r =>
    obtain ⟨v, n1, H1⟩ := r
    rw [he] at h
    simp only [Option.map_some, Option.some.injEq] at h
    subst h
    obtain ⟨h1, _⟩ := evCall_sound orders (fnOK_of fns_ok) 20000 _ _ _ _ _ _ _ _ he
    exact ⟨.bool true, n, H, .closed h1, Kp.refl n H, rfl, rfl, rfl⟩
end Go.Proofs.Ytplnndgdklfnfaa
