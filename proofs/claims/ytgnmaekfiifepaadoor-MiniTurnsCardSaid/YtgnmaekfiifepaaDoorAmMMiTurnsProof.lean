/- MiniTurns: of whatever arguments, the law's run answers true, and they read as they did. Conditions: the tables of Go's library read as listed (tied). -/
import Derived.Test.YtgnmaekfiifepaaDoorCards
import Derived.Test.YtgnmaekfiifepaaDoorTie
import Derived.Test.YtgnmaekfiifepaaDoorAmMMiGlobs
import Derived.Test.YtgnmaekfiifepaaDoorAmMMiArg
import Derived.Test.YtgnmaekfiifepaaDoorAmC
import Derived.WalkKit
import Derived.ProofKit
import Derived.OpenShut
import Derived.Deep.DeepHandedRow
set_option linter.all false
namespace Go.Proofs.YtgnmaekfiifepaaDoor.miniTurns
open Go.ChangeShapes Go.WideShapes Go.ChangeAt Go.RowKit
open Go.AM
set_option maxRecDepth 100000
theorem runs : LawRuns Tryd.prog G 4 Tryd.f4.params.toList := by
  intro n H vs hw hn hG hro h
  cases h with
  | cons h1 h2 =>
    cases h2 with
    | cons h2 h3 =>
      cases h3 with
      | cons h3 h4 =>
        cases h4
        obtain ⟨N, R, hd, ws⟩ := arg_dfa h1
        obtain ⟨x, rfl, _⟩ := ARV.intI (by kernel_rfl) (by kernel_rfl) h2
        obtain ⟨y, rfl, _⟩ := ARV.intI (by kernel_rfl) (by kernel_rfl) h3
        obtain ⟨v, n', H', hb, _, rfl⟩ := turns_gives hw hG hd ws
        exact ⟨n', H', hb⟩
noncomputable def zdfa : Value := .agg #[.slice none 0 0, .slice none 0 0]
noncomputable def zdat {H : Type} : DataW H := .agg [.nil, .nil]
theorem laid : laidOutB Tryd.prog = true := by kernel_rfl
theorem own : ownKnob Tryd.prog.godebug = none := by kernel_rfl
theorem params_ok : (Tryd.f4.params.toList.all fun t => plainT Tryd.prog 10 t && Tryd.prog.readableRec t && decide (t < Tryd.prog.types.size)) = true := by kernel_rfl
theorem und_bool : Tryd.prog.underlying 4 = some .bool := by kernel_rfl
theorem contract (H : Type) (enc : TypeId × Value → H) (W : World) (base : Nat) (args : Array Value) (ds gs : List (DataW H)) (before : List MemPlace)
    (hval : ∀ (j : Nat) t v, Tryd.f4.params[j]? = some t → args[j]? = some v → Value.okWide Tryd.prog W .any base t v)
    (hW : DataW.Whole enc Tryd.prog Tryd.f4.params.toList Rows.miniTurnsSpec.vars false W args.toList ds gs before) (hL : laidMetH Tryd.prog Rows.miniTurnsRow.laid W) (hS : W.ShapedOpen Tryd.prog) :
    Calls Tryd.prog 4 args W fun e W' => ∃ v, e = .returned v ∧ Rows.miniTurnsSpec.post enc Tryd.prog Tryd.f4 false true false false W args v W' := by
  refine law_contract orders laid (d := 10) (tb := 4) runs rfl (fun ds hd => ?_) (fun t ht => ?_) rfl und_bool W base args ds gs before hval hW (globs (l := Rows.miniTurnsRow.laid) hL hS ⟨2, rfl⟩)
  · match ds, hd with
    | [d1, d2, d3], _ => rfl
  · have := List.all_eq_true.1 params_ok t ht
    simp only [Bool.and_eq_true, decide_eq_true_eq] at this
    exact ⟨this.1.1, this.1.2, this.2⟩
theorem laid_met (os : Os) : laidMet Tryd.prog Rows.miniTurnsRow.laid ((laidWorld os).forCall (fun _ _ => 0) ⟨#[], #[zdfa, .int .i64 0, .int .i64 0], []⟩).memory :=
  laid_world _ rfl
theorem reads (os : Os) {H : Type} (enc : TypeId × Value → H) : ∃ places, DataW.whole enc Tryd.prog ((laidWorld os).forCall (fun _ _ => 0) ⟨#[], #[zdfa, .int .i64 0, .int .i64 0], []⟩).memory Tryd.f4.params.toList Rows.miniTurnsSpec.vars false (#[zdfa, .int .i64 0, .int .i64 0] : Array Value).toList 8 = some ([zdat, .lit (.int .i64 0), .lit (.int .i64 0)], [], places) :=
  ⟨[], by kernel_rfl⟩
theorem lifted (os : Os) (started : os.Started) (H : Type) (enc : TypeId × Value → H) (F : Stop.Interp) :
    ReturnsInHanded {} Tryd.checked os 4 .any ((OpenSpec.ofChange Rows.miniTurnsSpec).preRow enc Tryd.prog Tryd.f4 Rows.miniTurnsRow.domain false Rows.miniTurnsRow.laid) (((OpenSpec.ofChange Rows.miniTurnsSpec).at F).post enc Tryd.prog Tryd.f4 false true false false) := by
  obtain ⟨places, hx⟩ := reads os enc
  refine returnsInHanded_of_row (C := Tryd.checked) (s := OpenSpec.ofChange Rows.miniTurnsSpec) own started (by kernel_rfl) Tryd.func4
    (witness_zip (enc := enc) (C := Tryd.checked) (laidWorld os) #[zdfa, .int .i64 0, .int .i64 0] rfl (by kernel_rfl) (by kernel_rfl) (by kernel_rfl)
      (OpenSpec.preRow_of_cond 8 hx (by kernel_rfl) (fun k hk => by cases hk) (by kernel_rfl) (laid_met os))) ?_
  intro W base args ds gs before hval hW _ _ _ hL hS _
  exact contract H enc W base args ds gs before hval hW hL hS
theorem said : Rows.MiniTurnsSaid :=
  OpenClaim.holds_of_cond 4 Tryd.f4 rfl rfl rfl rfl rfl rfl rfl ⟨rfl, rfl, rfl, rfl, rfl⟩ rfl rfl rfl rfl rfl (by kernel_rfl) Tryd.func4 (by kernel_rfl)
    (of_decide_eq_true (by kernel_rfl)) (by unfold Func.isWrapper; first | (rw [if_pos (by decide +kernel)]; kernel_rfl) | (rw [if_neg (by decide +kernel)]; exact ⟨rfl, rfl⟩))
    (fun os started H enc _ F => by rw [OpenClaim.pre_eq_preRow]; exact lifted os started H enc F)
theorem plain (f : FuncId) (fn : Func) (hf : Tryd.pinned.checked.prog.funcNamed "accidence/accidencelaw16.MiniTurns" = some f) (hfn : Tryd.pinned.checked.prog.funcs[f]? = some fn) :
    false = Tryd.pinned.checked.prog.looks [] ∧ ∀ (j : Nat) t, fn.params[j]? = some t → Tryd.pinned.checked.prog.wantsStandIn t = false := by
  obtain rfl : f = 4 := Option.some.inj ((show Tryd.prog.funcNamed "accidence/accidencelaw16.MiniTurns" = some 4 by kernel_rfl).symm.trans hf) |>.symm
  obtain rfl : fn = Tryd.f4 := (Option.some.inj (Tryd.func4.symm.trans hfn)).symm
  refine ⟨by kernel_rfl, fun j t ht => ?_⟩
  have h1 : (Tryd.f4.params.toList.all fun t => !Tryd.pinned.checked.prog.wantsStandIn t) = true := by kernel_rfl
  have h2 := List.all_eq_true.1 h1 t (by have := Array.mem_of_getElem? ht; simpa using this)
  rwa [Bool.not_eq_true'] at h2
end Go.Proofs.YtgnmaekfiifepaaDoor.miniTurns
namespace Go.Proofs.YtgnmaekfiifepaaDoor
open Go
set_option maxRecDepth 100000
theorem miniTurns_holds : Rows.MiniTurnsCardSaid :=
  Claim7.holds_tied_plain_at .later [] _ _ _ _ miniTurns.said (fun _ h => by cases h) (by kernel_rfl) (fun _ h => by cases h) miniTurns_row_tie rfl ⟨rfl, rfl⟩ (by kernel_rfl) rfl miniTurns.plain (by kernel_rfl)
#print axioms miniTurns_holds
end Go.Proofs.YtgnmaekfiifepaaDoor
