/- AtnLooks: of whatever arguments, the law's run answers true, and they read as they did. Conditions: none. -/
import Derived.Test.YtfbdababcdfjfaaRows
import Derived.Test.YtfbdababcdfjfaaAmNAtLooks
import Derived.Test.YtfbdababcdfjfaaAmNAtLaw
import Derived.WalkKit
import Derived.ProofKit
import Derived.OpenShut
import Derived.JoinedCond
import Derived.HandedShaped
import Derived.Test.YtfbdababcdfjfaaAmC
import Derived.JoinedOf
set_option linter.all false
namespace Go.Proofs.Ytfbdababcdfjfaa.atnLooks
open Go.ChangeShapes Go.WideShapes Go.ChangeAt Go.RowKit
open Go.AM
set_option maxRecDepth 100000
theorem runs : LawRuns Try.prog (fun _ => .dead) 4 Try.f4.params.toList := by
 intro n H vs hw _ _ hro h
 cases h with
 | cons h1 h2 =>
  cases h2 with
  | cons h3 h4 =>
   cases h4 with
   | cons h5 h6 =>
    cases h6 with
    | cons h7 h8 =>
     cases h8
     obtain ⟨g, hg, wg⟩ := ARV.gram gramT agg_25 h1
     obtain ⟨v, rfl, _⟩ := ARV.intI und_3 agg_3 h3
     obtain ⟨ta, rfl, _⟩ := ARV.intI und_3 agg_3 h5
     obtain ⟨tb, rfl, _⟩ := ARV.intI und_3 agg_3 h7
     obtain ⟨w, n', H', hB, _, rfl⟩ := looks_gives (v := v) (ta := ta) (tb := tb) hw hg wg hro
     exact ⟨n', H', hB⟩
theorem globs0 {W : World} (hs : W.ShapedOpen Try.prog) : Globs Try.prog W (fun _ => .dead) := by
 refine (fun (h : ngl Try.prog ≤ W.heap.size ∧ 0 < W.heap.size) => ⟨fun _ _ => rfl, fun _ h => absurd rfl h, h.1, h.2⟩) ?_
 have hlast : ngl Try.prog - 1 < W.heap.size := by
  have hsome : (((begin Try.prog (fun _ _ => 0) default).world.heap[ngl Try.prog - 1]?).bind Obj.row?).isSome = true := by kernel_rfl
  obtain ⟨⟨z, t⟩, hz⟩ := Option.isSome_iff_exists.1 hsome
  exact heap_of_shaped hs (of_decide_eq_true (by kernel_rfl)) hz
 exact ⟨by omega, by omega⟩
theorem contract (H : Type) (enc : TypeId × Value → H) (W : World) (base : Nat) (args : Array Value) (ds gs : List (DataW H)) (before : List MemPlace)
  (hval : ∀ (j : Nat) t v, Try.f4.params[j]? = some t → args[j]? = some v → Value.okWide Try.prog W .any base t v)
  (hW : DataW.Whole enc Try.prog Try.f4.params.toList Rows.atnLooksSpec.vars false W args.toList ds gs before) (hS : W.ShapedOpen Try.prog) :
  Calls Try.prog 4 args W fun e W' => ∃ v, e = .returned v ∧ Rows.atnLooksSpec.post enc Try.prog Try.f4 false true false false W args v W' := by
 refine law_contract orders laid (d := 10) (tb := 4) runs rfl (fun ds hd => ?_) (fun t ht => plain_of (by simp [Try.f4] at ht; simp [ht] <;> (rcases ht with rfl | rfl | rfl | rfl <;> simp))) rfl und_4 W base args ds gs before hval hW (globs0 hS)
 match ds, hd with
 | [d1, d2, d3, d4], _ => rfl
set_option maxRecDepth 100000 in
theorem lifted (os : Os) (started : os.Started) (H : Type) (enc : TypeId × Value → H) :
  ReturnsInHanded {} Try.checked os 4 .any (Rows.atnLooksSpec.pre6 enc Try.prog Try.f4 Rows.atnLooksRow.domain false) (Rows.atnLooksSpec.post enc Try.prog Try.f4 false true false false) := by
 refine returnsInHanded_of_change_shaped (C := Try.checked) own started (by kernel_rfl) Try.func4
  (ChangeSpec.witness6 (enc := enc) (C := Try.checked) false ⟨#[], #[.agg #[.slice none 0 0, .slice none 0 0, .slice none 0 0], .int .i64 0, .int .i64 0, .int .i64 0], []⟩ 8 (by kernel_rfl) (by kernel_rfl) (by kernel_rfl) (by kernel_rfl)) ?_
 intro W base args ds gs before hval hW _ _ hS _
 exact contract H enc W base args ds gs before hval hW hS
theorem over : Rows.atnLooksRow.holds Try.pinned (OpenSpec.ofChange Rows.atnLooksSpec) :=
 OpenClaim.holds_of_wide 4 Try.f4 rfl rfl rfl rfl rfl rfl rfl ⟨rfl, rfl, rfl, rfl, rfl⟩ rfl rfl rfl rfl rfl (by kernel_rfl) Try.func4 (by kernel_rfl)
  (of_decide_eq_true (by kernel_rfl)) (by unfold Func.isWrapper; first | (rw [if_pos (by decide +kernel)]; kernel_rfl) | (rw [if_neg (by decide +kernel)]; exact ⟨rfl, rfl⟩))
  (fun os started H enc _ => lifted os started H enc)
end Go.Proofs.Ytfbdababcdfjfaa.atnLooks
namespace Go.Proofs.Ytfbdababcdfjfaa
theorem atnLooks_holds : Rows.AtnLooksSaid := atnLooks.over
#print axioms atnLooks_holds
end Go.Proofs.Ytfbdababcdfjfaa
