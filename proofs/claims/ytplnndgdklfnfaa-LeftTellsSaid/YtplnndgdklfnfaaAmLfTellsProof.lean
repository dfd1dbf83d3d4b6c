/- LeftTells: of whatever arguments, the law's run answers true, and they read as they did. Conditions: none. -/
import Derived.Test.YtplnndgdklfnfaaAmLfAlike
import Derived.Test.YtplnndgdklfnfaaAmLfLaw
import Derived.WalkKit
import Derived.ProofKit
import Derived.OpenShut
import Derived.JoinedCond
import Derived.Handed
import Derived.JoinedOf
set_option linter.all false
namespace Go.Proofs.Ytplnndgdklfnfaa.leftTells
open Go.ChangeShapes Go.WideShapes Go.ChangeAt Go.RowKit
open Go.AM

theorem runs : LawRuns Try.prog 3 Try.f3.params.toList := by
  intro n H vs hw h
  cases h with
  | cons h1 h2 =>
    cases h2
    obtain ⟨g, hg, wg⟩ := ARV.gram gramT agg_25 h1
    obtain ⟨v, n', H', hb, _, rfl⟩ := tells_gives hw hg wg
    exact ⟨n', H', hb⟩

theorem contract (H : Type) (enc : TypeId × Value → H) (W : World) (base : Nat) (args : Array Value) (ds gs : List (DataW H)) (before : List MemPlace)
    (hval : ∀ (j : Nat) t v, Try.f3.params[j]? = some t → args[j]? = some v → Value.okWide Try.prog W .any base t v)
    (hW : DataW.Whole enc Try.prog Try.f3.params.toList Rows.leftTellsSpec.vars false W args.toList ds gs before) :
    Calls Try.prog 3 args W fun e W' => ∃ v, e = .returned v ∧ Rows.leftTellsSpec.post enc Try.prog Try.f3 false true false false W args v W' := by
  refine law_contract orders laid (d := 10) (tb := 4) runs rfl (fun ds hd => ?_) (fun t ht => plain_of (by simp [Try.f3] at ht; simp [ht] )) rfl und_4 W base args ds gs before hval hW
  match ds, hd with
  | [d], _ => rfl

set_option maxRecDepth 100000 in
theorem lifted (os : Os) (started : os.Started) (H : Type) (enc : TypeId × Value → H) :
    ReturnsInHanded {} Try.checked os 3 .any (Rows.leftTellsSpec.pre6 enc Try.prog Try.f3 Rows.leftTellsRow.domain false) (Rows.leftTellsSpec.post enc Try.prog Try.f3 false true false false) := by
  refine returnsInHanded_of_change (C := Try.checked) own started (by kernel_rfl) Try.func3
    (ChangeSpec.witness6 (enc := enc) (C := Try.checked) false ⟨#[], #[.agg #[.slice none 0 0, .slice none 0 0, .slice none 0 0]], []⟩ 8 (by kernel_rfl) (by kernel_rfl) (by kernel_rfl) (by kernel_rfl)) ?_
  intro W base args ds gs before hval hW _ _
  exact contract H enc W base args ds gs before hval hW

theorem over : Rows.leftTellsRow.holds Try.pinned (OpenSpec.ofChange Rows.leftTellsSpec) :=
  OpenClaim.holds_of_wide 3 Try.f3 rfl rfl rfl rfl rfl rfl rfl ⟨rfl, rfl, rfl, rfl, rfl⟩ rfl rfl rfl rfl rfl (by kernel_rfl) Try.func3 (by kernel_rfl)
    (of_decide_eq_true (by kernel_rfl)) (by unfold Func.isWrapper; first | (rw [if_pos (by decide +kernel)]; kernel_rfl) | (rw [if_neg (by decide +kernel)]; exact ⟨rfl, rfl⟩))
    (fun os started H enc _ => lifted os started H enc)
end Go.Proofs.Ytplnndgdklfnfaa.leftTells
namespace Go.Proofs.Ytplnndgdklfnfaa
theorem leftTells_holds : Rows.LeftTellsSaid := leftTells.over
#print axioms leftTells_holds
end Go.Proofs.Ytplnndgdklfnfaa
