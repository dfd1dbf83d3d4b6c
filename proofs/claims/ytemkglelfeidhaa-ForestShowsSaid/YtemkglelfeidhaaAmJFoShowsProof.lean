/- ForestShows: of whatever arguments, the law's run answers true, and they read as they did. Conditions: none. -/
import Derived.Test.YtemkglelfeidhaaRows
import Derived.Test.YtemkglelfeidhaaAmJFoLaw
import Derived.Test.YtemkglelfeidhaaAmC
import Derived.WalkKit
import Derived.ProofKit
import Derived.OpenShut
import Derived.JoinedCond
import Derived.HandedShaped
import Derived.JoinedOf
set_option linter.all false
namespace Go.Proofs.Ytemkglelfeidhaa.forestShows
open Go.ChangeShapes Go.WideShapes Go.ChangeAt Go.RowKit
open Go.AM
set_option maxRecDepth 100000
theorem runs : LawRunsD Try.prog (fun _ => .dead) 6 Try.f6.params.toList := by
 intro n H vs hw _ _ hro h
 cases h with
 | cons h1 h2 =>
  cases h2 with
  | cons h3 h4 =>
   cases h4
   obtain ⟨g, hg, wg⟩ := ARV.gram gramT agg_25 h1
   obtain ⟨p, a, rfl, hp, _, hi⟩ := ARV.intsI und_26 csz_3 und_3 agg_26 h3
   refine DB.mono (showsLaw_gives hw hg wg hp hi) ?_
   rintro o ho
   cases o <;> first | exact ho.2 | trivial
theorem globs0 {W : World} (hs : W.ShapedOpen Try.prog) : Globs Try.prog W (fun _ => .dead) := by
 refine (fun (h : ngl Try.prog ≤ W.heap.size ∧ 0 < W.heap.size) => ⟨fun _ _ => rfl, fun _ h => absurd rfl h, h.1, h.2⟩) ?_
 have hlast : ngl Try.prog - 1 < W.heap.size := by
  have hsome : (((begin Try.prog (fun _ _ => 0) default).world.heap[ngl Try.prog - 1]?).bind Obj.row?).isSome = true := by kernel_rfl
  obtain ⟨⟨z, t⟩, hz⟩ := Option.isSome_iff_exists.1 hsome
  exact heap_of_shaped hs (of_decide_eq_true (by kernel_rfl)) hz
 exact ⟨by omega, by omega⟩
theorem contract (H : Type) (enc : TypeId × Value → H) (W : World) (base : Nat) (args : Array Value) (ds gs : List (DataW H)) (before : List MemPlace)
  (hval : ∀ (j : Nat) t v, Try.f6.params[j]? = some t → args[j]? = some v → Value.okWide Try.prog W .any base t v)
  (hW : DataW.Whole enc Try.prog Try.f6.params.toList Rows.forestShowsSpec.vars false W args.toList ds gs before) (hS : W.ShapedOpen Try.prog) :
  Calls Try.prog 6 args W fun e W' => ∃ v, e = .returned v ∧ Rows.forestShowsSpec.post enc Try.prog Try.f6 false true false false W args v W' := by
 refine law_contractD orders laid (d := 10) (tb := 4) runs rfl (fun ds hd => ?_) (fun t ht => plain_of (by simp [Try.f6] at ht; simp [ht] <;> (rcases ht with rfl | rfl <;> simp))) rfl und_4 W base args ds gs before hval hW (globs0 hS)
 match ds, hd with
 | [d1, d2], _ => rfl
set_option maxRecDepth 100000 in
theorem lifted (os : Os) (started : os.Started) (H : Type) (enc : TypeId × Value → H) :
  ReturnsInHanded {} Try.checked os 6 .any (Rows.forestShowsSpec.pre6 enc Try.prog Try.f6 Rows.forestShowsRow.domain false) (Rows.forestShowsSpec.post enc Try.prog Try.f6 false true false false) := by
 refine returnsInHanded_of_change_shaped (C := Try.checked) own started (by kernel_rfl) Try.func6
  (ChangeSpec.witness6 (enc := enc) (C := Try.checked) false ⟨#[], #[.agg #[.slice none 0 0, .slice none 0 0, .slice none 0 0], .slice none 0 0], []⟩ 8 (by kernel_rfl) (by kernel_rfl) (by kernel_rfl) (by kernel_rfl)) ?_
 intro W base args ds gs before hval hW _ _ hS _
 exact contract H enc W base args ds gs before hval hW hS
theorem over : Rows.forestShowsRow.holds Try.pinned (OpenSpec.ofChange Rows.forestShowsSpec) :=
 OpenClaim.holds_of_wide 6 Try.f6 rfl rfl rfl rfl rfl rfl rfl ⟨rfl, rfl, rfl, rfl, rfl⟩ rfl rfl rfl rfl rfl (by kernel_rfl) Try.func6 (by kernel_rfl)
  (of_decide_eq_true (by kernel_rfl)) (by unfold Func.isWrapper; first | (rw [if_pos (by decide +kernel)]; kernel_rfl) | (rw [if_neg (by decide +kernel)]; exact ⟨rfl, rfl⟩))
  (fun os started H enc _ => lifted os started H enc)
end Go.Proofs.Ytemkglelfeidhaa.forestShows
namespace Go.Proofs.Ytemkglelfeidhaa
theorem forestShows_holds : Rows.ForestShowsSaid := forestShows.over
#print axioms forestShows_holds
end Go.Proofs.Ytemkglelfeidhaa
