/- LeftJoins: of whatever grammar, the law's run answers true, and the grammar reads as it did. Conditions: none. -/
import Derived.Test.YtplnndgdklfnfaaAmLfJoins
import Derived.Test.YtplnndgdklfnfaaAmLfLaw
import Derived.WalkKit
import Derived.ProofKit
import Derived.OpenShut
import Derived.JoinedCond
import Derived.Handed
import Derived.JoinedOf
set_option linter.all false
namespace Go.Proofs.Ytplnndgdklfnfaa.leftJoins
open Go.ChangeShapes Go.WideShapes Go.ChangeAt Go.RowKit
open Go.AM

theorem runs : LawRuns Try.prog 6 Try.f6.params.toList := by
  intro n H vs hw h
  cases h with
  | cons h1 h2 =>
    cases h2
    obtain ⟨g, hg, wg⟩ := ARV.gram gramT agg_25 h1
    obtain ⟨v, n', H', hb, _, rfl⟩ := joins_gives hw hg wg
    exact ⟨n', H', hb⟩

theorem contract (H : Type) (enc : TypeId × Value → H) (W : World) (base : Nat) (args : Array Value) (ds gs : List (DataW H)) (before : List MemPlace)
    (hval : ∀ (j : Nat) t v, Try.f6.params[j]? = some t → args[j]? = some v → Value.okWide Try.prog W .any base t v)
    (hW : DataW.Whole enc Try.prog Try.f6.params.toList Rows.leftJoinsSpec.vars false W args.toList ds gs before) :
    Calls Try.prog 6 args W fun e W' => ∃ v, e = .returned v ∧ Rows.leftJoinsSpec.post enc Try.prog Try.f6 false true false false W args v W' := by
  refine law_contract orders laid (d := 10) (tb := 4) runs rfl (fun ds hd => ?_) (fun t ht => plain_of (by simp [Try.f6] at ht; simp [ht])) rfl und_4 W base args ds gs before hval hW
  match ds, hd with
  | [d], _ => rfl

set_option maxRecDepth 100000 in
theorem lifted (os : Os) (started : os.Started) (H : Type) (enc : TypeId × Value → H) :
    ReturnsInHanded {} Try.checked os 6 .any (Rows.leftJoinsSpec.pre6 enc Try.prog Try.f6 Rows.leftJoinsRow.domain false) (Rows.leftJoinsSpec.post enc Try.prog Try.f6 false true false false) := by
  refine returnsInHanded_of_change (C := Try.checked) own started (by kernel_rfl) Try.func6
    (ChangeSpec.witness6 (enc := enc) (C := Try.checked) false ⟨#[], #[.agg #[.slice none 0 0, .slice none 0 0, .slice none 0 0]], []⟩ 8 (by kernel_rfl) (by kernel_rfl) (by kernel_rfl) (by kernel_rfl)) ?_
  intro W base args ds gs before hval hW _ _
  exact contract H enc W base args ds gs before hval hW

theorem over : Rows.leftJoinsRow.holds Try.pinned (OpenSpec.ofChange Rows.leftJoinsSpec) :=
  OpenClaim.holds_of_wide 6 Try.f6 rfl rfl rfl rfl rfl rfl rfl ⟨rfl, rfl, rfl, rfl, rfl⟩ rfl rfl rfl rfl rfl (by kernel_rfl) Try.func6 (by kernel_rfl)
    (of_decide_eq_true (by kernel_rfl)) (by unfold Func.isWrapper; first | (rw [if_pos (by decide +kernel)]; kernel_rfl) | (rw [if_neg (by decide +kernel)]; exact ⟨rfl, rfl⟩))
    (fun os started H enc _ => lifted os started H enc)
end Go.Proofs.Ytplnndgdklfnfaa.leftJoins
namespace Go.Proofs.Ytplnndgdklfnfaa
theorem leftJoins_holds : Rows.LeftJoinsSaid := leftJoins.over
#print axioms leftJoins_holds
end Go.Proofs.Ytplnndgdklfnfaa
