/- UsefulReduces: of whatever arguments, the law's run answers true, and they read as they did. Conditions: the tables of Go's library read as listed (tied). -/
import Derived.Test.YtihjaobjhmmboaaGreatDoorCards
import Derived.Test.YtihjaobjhmmboaaGreatDoorTie
import Derived.Test.YtihjaobjhmmboaaGreatDoorAmULfTold
import Derived.Test.YtihjaobjhmmboaaGreatDoorAmULfLaw
import Derived.Test.YtihjaobjhmmboaaGreatDoorAmC
import Derived.WalkKit
import Derived.ProofKit
import Derived.OpenShut
import Derived.Deep.DeepHandedRow
set_option linter.all false
namespace Go.Proofs.YtihjaobjhmmboaaGreatDoor.usefulReduces
open Go.ChangeShapes Go.WideShapes Go.ChangeAt Go.RowKit
open Go.AM
set_option maxRecDepth 100000
theorem runs : LawRuns Tryz.prog G 7 Tryz.f7.params.toList := by
 intro n H vs hw hn hG hro h
 cases h with
 | cons h1 h2 =>
  cases h2
  obtain ⟨g, hg, wg⟩ := ARV.gram gramT agg_25 h1
  obtain ⟨v, n', H', hb, _, rfl⟩ := reducesLaw_gives hw hG hg wg (ARV.gramO gramT agg_25 h1)
  exact ⟨n', H', hb⟩
theorem laid : laidOutB Tryz.prog = true := by kernel_rfl
theorem own : ownKnob Tryz.prog.godebug = none := by kernel_rfl
theorem params_ok : (Tryz.f7.params.toList.all fun t => plainT Tryz.prog 10 t && Tryz.prog.readableRec t && decide (t < Tryz.prog.types.size)) = true := by kernel_rfl
theorem und_bool : Tryz.prog.underlying 4 = some .bool := by kernel_rfl
theorem contract (H : Type) (enc : TypeId × Value → H) (W : World) (base : Nat) (args : Array Value) (ds gs : List (DataW H)) (before : List MemPlace)
  (hval : ∀ (j : Nat) t v, Tryz.f7.params[j]? = some t → args[j]? = some v → Value.okWide Tryz.prog W .any base t v)
  (hW : DataW.Whole enc Tryz.prog Tryz.f7.params.toList Rows.usefulReducesSpec.vars false W args.toList ds gs before) (hL : laidMetH Tryz.prog Rows.usefulReducesRow.laid W) (hS : W.ShapedOpen Tryz.prog) :
  Calls Tryz.prog 7 args W fun e W' => ∃ v, e = .returned v ∧ Rows.usefulReducesSpec.post enc Tryz.prog Tryz.f7 false true false false W args v W' := by
 refine law_contract orders laid (d := 10) (tb := 4) runs rfl (fun ds hd => ?_) (fun t ht => ?_) rfl und_bool W base args ds gs before hval hW (globs (l := Rows.usefulReducesRow.laid) hL hS ⟨5, rfl⟩ ⟨3, rfl⟩ ⟨2, rfl⟩)
 ·match ds, hd with
  | [d1], _ => rfl
 ·have := List.all_eq_true.1 params_ok t ht
  simp only [Bool.and_eq_true, decide_eq_true_eq] at this
  exact ⟨this.1.1, this.1.2, this.2⟩
theorem laid_met (os : Os) : laidMet Tryz.prog Rows.usefulReducesRow.laid ((laidWorld os).forCall (fun _ _ => 0) ⟨#[], #[.agg #[.slice none 0 0, .slice none 0 0, .slice none 0 0]], []⟩).memory :=
 laid_world _ rfl
theorem reads (os : Os) {H : Type} (enc : TypeId × Value → H) : ∃ places, DataW.whole enc Tryz.prog ((laidWorld os).forCall (fun _ _ => 0) ⟨#[], #[.agg #[.slice none 0 0, .slice none 0 0, .slice none 0 0]], []⟩).memory Tryz.f7.params.toList Rows.usefulReducesSpec.vars false (#[.agg #[.slice none 0 0, .slice none 0 0, .slice none 0 0]] : Array Value).toList 8 = some ([.agg [.nil, .nil, .nil]], [], places) :=
 ⟨[], by kernel_rfl⟩
theorem lifted (os : Os) (started : os.Started) (H : Type) (enc : TypeId × Value → H) (F : Stop.Interp) :
  ReturnsInHanded {} Tryz.checked os 7 .any ((OpenSpec.ofChange Rows.usefulReducesSpec).preRow enc Tryz.prog Tryz.f7 Rows.usefulReducesRow.domain false Rows.usefulReducesRow.laid) (((OpenSpec.ofChange Rows.usefulReducesSpec).at F).post enc Tryz.prog Tryz.f7 false true false false) := by
 obtain ⟨places, hx⟩ := reads os enc
 refine returnsInHanded_of_row (C := Tryz.checked) (s := OpenSpec.ofChange Rows.usefulReducesSpec) own started (by kernel_rfl) Tryz.func7
  (witness_zip (enc := enc) (C := Tryz.checked) (laidWorld os) #[.agg #[.slice none 0 0, .slice none 0 0, .slice none 0 0]] rfl (by kernel_rfl) (by kernel_rfl) (by kernel_rfl)
   (OpenSpec.preRow_of_cond 8 hx (by kernel_rfl) (fun k hk => by cases hk) (by kernel_rfl) (laid_met os))) ?_
 intro W base args ds gs before hval hW _ _ _ hL hS _
 exact contract H enc W base args ds gs before hval hW hL hS
theorem said : Rows.UsefulReducesSaid :=
 OpenClaim.holds_of_cond 7 Tryz.f7 rfl rfl rfl rfl rfl rfl rfl ⟨rfl, rfl, rfl, rfl, rfl⟩ rfl rfl rfl rfl rfl (by kernel_rfl) Tryz.func7 (by kernel_rfl)
  (of_decide_eq_true (by kernel_rfl)) (by unfold Func.isWrapper; first | (rw [if_pos (by decide +kernel)]; kernel_rfl) | (rw [if_neg (by decide +kernel)]; exact ⟨rfl, rfl⟩))
  (fun os started H enc _ F => by rw [OpenClaim.pre_eq_preRow]; exact lifted os started H enc F)
theorem plain (f : FuncId) (fn : Func) (hf : Tryz.pinned.checked.prog.funcNamed "accidence/accidencelaw09.UsefulReduces" = some f) (hfn : Tryz.pinned.checked.prog.funcs[f]? = some fn) :
  false = Tryz.pinned.checked.prog.looks [] ∧ ∀ (j : Nat) t, fn.params[j]? = some t → Tryz.pinned.checked.prog.wantsStandIn t = false := by
 obtain rfl : f = 7 := Option.some.inj ((show Tryz.prog.funcNamed "accidence/accidencelaw09.UsefulReduces" = some 7 by kernel_rfl).symm.trans hf) |>.symm
 obtain rfl : fn = Tryz.f7 := (Option.some.inj (Tryz.func7.symm.trans hfn)).symm
 refine ⟨by kernel_rfl, fun j t ht => ?_⟩
 have h1 : (Tryz.f7.params.toList.all fun t => !Tryz.pinned.checked.prog.wantsStandIn t) = true := by kernel_rfl
 have h2 := List.all_eq_true.1 h1 t (by have := Array.mem_of_getElem? ht; simpa using this)
 rwa [Bool.not_eq_true'] at h2
end Go.Proofs.YtihjaobjhmmboaaGreatDoor.usefulReduces
namespace Go.Proofs.YtihjaobjhmmboaaGreatDoor
open Go
set_option maxRecDepth 100000
theorem usefulReduces_holds : Rows.UsefulReducesCardSaid :=
 Claim7.holds_tied_plain_at .later [] _ _ _ _ usefulReduces.said (fun _ h => by cases h) (by kernel_rfl) (fun _ h => by cases h) usefulReduces_row_tie rfl ⟨rfl, rfl⟩ (by kernel_rfl) rfl usefulReduces.plain (by kernel_rfl)
#print axioms usefulReduces_holds
end Go.Proofs.YtihjaobjhmmboaaGreatDoor
