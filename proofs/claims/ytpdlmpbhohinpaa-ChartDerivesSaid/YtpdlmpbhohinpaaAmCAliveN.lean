/- A part of a proof. Its conditions: none. -/
import Derived.Test.YtpdlmpbhohinpaaAmCFacts
import Derived.Test.YtpdlmpbhohinpaaAmC
import Derived.Test.YtpdlmpbhohinpaaAmD
set_option linter.all false
namespace Go.Proofs.Ytpdlmpbhohinpaa
open Go.AM
set_option maxRecDepth 100000
theorem alive_ev : (evCallT Try.prog (fun g => fns.contains g) 20000 0 8 [] (ngl Try.prog) (.bare 14 0)).map (·.1) = some (.bool true) := by kernel_rfl
theorem alive_gives (n : Nat) (H : Heap) : Gives Try.prog 8 [] n H fun v n' H' => v = .bool true ∧ n' = n ∧ H' = H := by
  have h := alive_ev
  cases he : evCallT Try.prog (fun g => fns.contains g) 20000 0 8 [] (ngl Try.prog) (.bare 14 0) with
  | none => rw [he] at h; cases h
  | some r =>
    obtain ⟨v, n1, H1⟩ := r
    rw [he] at h
    simp only [Option.map_some, Option.some.injEq] at h
    subst h
    obtain ⟨h1, _⟩ := evCall_sound orders (fnOK_of fns_ok) 20000 _ _ _ _ _ _ _ _ (evCallT_sound he)
    exact ⟨.bool true, n, H, .closed h1 (fun _ _ => rfl) (fun x hx => absurd rfl hx), Kp.refl n H, rfl, rfl, rfl⟩
end Go.Proofs.Ytpdlmpbhohinpaa
