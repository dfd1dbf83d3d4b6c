/- EdgeLine: of whatever arguments, the law's run answers true, and they read as they did. Conditions: the tables of Go's library read as listed (tied). -/
/- A part of a proof. Its conditions: none. -/
import Derived.Test.YtddpnhhgmfaloaaDoorCards
import Derived.Test.YtddpnhhgmfaloaaDoorTie
import Derived.Test.YtddpnhhgmfaloaaDoorAmEGlobs
import Derived.Test.YtddpnhhgmfaloaaDoorAmELineLaw
import Derived.Test.YtddpnhhgmfaloaaDoorAmC
import Derived.WalkKit
import Derived.ProofKit
import Derived.OpenShut
import Derived.Deep.DeepHandedRow
set_option linter.all false
namespace Go.Proofs.YtddpnhhgmfaloaaDoor.edgeLine
open Go.ChangeShapes Go.WideShapes Go.ChangeAt Go.RowKit
open Go.AM
set_option maxRecDepth 100000

theorem runs : LawRuns Tryd.prog G 5 Tryd.f5.params.toList := by
  intro n H vs hw hn hG h
  cases h with
  | cons h1 h2 =>
    cases h2 with
    | cons h2 h3 =>
      cases h3 with
      | cons h3 h4 =>
        cases h4
        obtain ⟨x, rfl, hx⟩ := ARV.u64 (by kernel_rfl) (by kernel_rfl) h1
        obtain ⟨y, rfl, hy⟩ := ARV.u64 (by kernel_rfl) (by kernel_rfl) h2
        obtain ⟨z, rfl, hz⟩ := ARV.u64 (by kernel_rfl) (by kernel_rfl) h3
        obtain ⟨v, n', H', hb, _, rfl, _⟩ := line_gives x y z hx hy hz n H hG
        exact ⟨n', H', hb⟩

theorem laid : laidOutB Tryd.prog = true := by kernel_rfl
theorem own : ownKnob Tryd.prog.godebug = none := by kernel_rfl
theorem params_ok : (Tryd.f5.params.toList.all fun t => plainT Tryd.prog 10 t && Tryd.prog.readableRec t && decide (t < Tryd.prog.types.size)) = true := by kernel_rfl
theorem und_bool : Tryd.prog.underlying 4 = some .bool := by kernel_rfl

theorem contract (H : Type) (enc : TypeId × Value → H) (W : World) (base : Nat) (args : Array Value) (ds gs : List (DataW H)) (before : List MemPlace)
    (hval : ∀ (j : Nat) t v, Tryd.f5.params[j]? = some t → args[j]? = some v → Value.okWide Tryd.prog W .any base t v)
    (hW : DataW.Whole enc Tryd.prog Tryd.f5.params.toList Rows.edgeLineSpec.vars false W args.toList ds gs before) (hL : laidMetH Tryd.prog Rows.edgeLineRow.laid W) (hS : W.ShapedOpen Tryd.prog) :
    Calls Tryd.prog 5 args W fun e W' => ∃ v, e = .returned v ∧ Rows.edgeLineSpec.post enc Tryd.prog Tryd.f5 false true false false W args v W' := by
  refine law_contract orders laid (d := 10) (tb := 4) runs rfl (fun ds hd => ?_) (fun t ht => ?_) rfl und_bool W base args ds gs before hval hW (globs (l := Rows.edgeLineRow.laid) hL hS ⟨5, rfl⟩ ⟨3, rfl⟩ ⟨2, rfl⟩)
  · match ds, hd with
    | [d1, d2, d3], _ => rfl
  · have := List.all_eq_true.1 params_ok t ht
    simp only [Bool.and_eq_true, decide_eq_true_eq] at this
    exact ⟨this.1.1, this.1.2, this.2⟩

theorem laid_met (os : Os) : laidMet Tryd.prog Rows.edgeLineRow.laid ((laidWorld os).forCall (fun _ _ => 0) ⟨#[], #[.int .u64 0, .int .u64 0, .int .u64 0], []⟩).memory :=
  laid_world _ rfl
theorem reads (os : Os) {H : Type} (enc : TypeId × Value → H) : ∃ places, DataW.whole enc Tryd.prog ((laidWorld os).forCall (fun _ _ => 0) ⟨#[], #[.int .u64 0, .int .u64 0, .int .u64 0], []⟩).memory Tryd.f5.params.toList Rows.edgeLineSpec.vars false (#[.int .u64 0, .int .u64 0, .int .u64 0] : Array Value).toList 8 = some ([.lit (.int .u64 0), .lit (.int .u64 0), .lit (.int .u64 0)], [], places) :=
  ⟨[], by kernel_rfl⟩

theorem lifted (os : Os) (started : os.Started) (H : Type) (enc : TypeId × Value → H) (F : Stop.Interp) :
    ReturnsInHanded {} Tryd.checked os 5 .any ((OpenSpec.ofChange Rows.edgeLineSpec).preRow enc Tryd.prog Tryd.f5 Rows.edgeLineRow.domain false Rows.edgeLineRow.laid) (((OpenSpec.ofChange Rows.edgeLineSpec).at F).post enc Tryd.prog Tryd.f5 false true false false) := by
  obtain ⟨places, hx⟩ := reads os enc
  refine returnsInHanded_of_row (C := Tryd.checked) (s := OpenSpec.ofChange Rows.edgeLineSpec) own started (by kernel_rfl) Tryd.func5
    (witness_zip (enc := enc) (C := Tryd.checked) (laidWorld os) #[.int .u64 0, .int .u64 0, .int .u64 0] rfl (by kernel_rfl) (by kernel_rfl) (by kernel_rfl)
      (OpenSpec.preRow_of_cond 8 hx (by kernel_rfl) (fun k hk => by cases hk) (by kernel_rfl) (laid_met os))) ?_
  intro W base args ds gs before hval hW _ _ _ hL hS _
  exact contract H enc W base args ds gs before hval hW hL hS

theorem said : Rows.EdgeLineSaid :=
  OpenClaim.holds_of_cond 5 Tryd.f5 rfl rfl rfl rfl rfl rfl rfl ⟨rfl, rfl, rfl, rfl, rfl⟩ rfl rfl rfl rfl rfl (by kernel_rfl) Tryd.func5 (by kernel_rfl)
    (of_decide_eq_true (by kernel_rfl)) (by unfold Func.isWrapper; first | (rw [if_pos (by decide +kernel)]; kernel_rfl) | (rw [if_neg (by decide +kernel)]; exact ⟨rfl, rfl⟩))
    (fun os started H enc _ F => by rw [OpenClaim.pre_eq_preRow]; exact lifted os started H enc F)

theorem plain (f : FuncId) (fn : Func) (hf : Tryd.pinned.checked.prog.funcNamed "accidence/accidencelaw01.EdgeLine" = some f) (hfn : Tryd.pinned.checked.prog.funcs[f]? = some fn) :
    false = Tryd.pinned.checked.prog.looks [] ∧ ∀ (j : Nat) t, fn.params[j]? = some t → Tryd.pinned.checked.prog.wantsStandIn t = false := by
  obtain rfl : f = 5 := Option.some.inj ((show Tryd.prog.funcNamed "accidence/accidencelaw01.EdgeLine" = some 5 by kernel_rfl).symm.trans hf) |>.symm
  obtain rfl : fn = Tryd.f5 := (Option.some.inj (Tryd.func5.symm.trans hfn)).symm
  refine ⟨by kernel_rfl, fun j t ht => ?_⟩
  have h1 : (Tryd.f5.params.toList.all fun t => !Tryd.pinned.checked.prog.wantsStandIn t) = true := by kernel_rfl
  have h2 := List.all_eq_true.1 h1 t (by have := Array.mem_of_getElem? ht; simpa using this)
  rwa [Bool.not_eq_true'] at h2
end Go.Proofs.YtddpnhhgmfaloaaDoor.edgeLine
namespace Go.Proofs.YtddpnhhgmfaloaaDoor
open Go
set_option maxRecDepth 100000
theorem edgeLine_holds : Rows.EdgeLineCardSaid :=
  Claim7.holds_tied_plain_at .later [] _ _ _ _ edgeLine.said (fun _ h => by cases h) (by kernel_rfl) (fun _ h => by cases h) edgeLine_row_tie rfl ⟨rfl, rfl⟩ (by kernel_rfl) rfl edgeLine.plain (by kernel_rfl)
#print axioms edgeLine_holds
end Go.Proofs.YtddpnhhgmfaloaaDoor
