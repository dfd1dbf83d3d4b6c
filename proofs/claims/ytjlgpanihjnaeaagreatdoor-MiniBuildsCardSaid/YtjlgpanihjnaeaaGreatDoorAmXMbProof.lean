/- MiniBuilds: of whatever arguments, the law's run answers true, and they read as they did. Conditions: the tables of Go's library read as listed (tied). -/
import Derived.Test.YtjlgpanihjnaeaaGreatDoorCards
import Derived.Test.YtjlgpanihjnaeaaGreatDoorTie
import Derived.Test.YtjlgpanihjnaeaaGreatDoorAmXMbStr
import Derived.Test.YtjlgpanihjnaeaaGreatDoorAmXMbBuilds
import Derived.Test.YtjlgpanihjnaeaaGreatDoorAmC
import Derived.WalkKit
import Derived.ProofKit
import Derived.OpenShut
import Derived.Deep.DeepHandedRow
set_option linter.all false
namespace Go.Proofs.YtjlgpanihjnaeaaGreatDoor.miniBuilds
open Go.ChangeShapes Go.WideShapes Go.ChangeAt Go.RowKit
open Go.AM
set_option maxRecDepth 100000
theorem runs:LawRuns Tryz.prog G 3 Tryz.f3.params.toList:=by
 intro n H vs hw _ hG hro h
 cases h with
 | cons h1 h2 =>
  cases h2 with
  | cons h3 h4 =>
   cases h4 with
   | cons h5 h6 =>
    cases h6
    obtain⟨g,hg,wg⟩:=ARV.gram gramT agg_25 h1
    obtain⟨v,rfl,_⟩:=ARV.intI und_3 agg_3 h3
    obtain⟨q,m,rfl,hq,_,_⟩:=ARV.intsI und_26 csz_3 und_3 agg_26 h5
    obtain⟨w,n',H',hB,_,rfl⟩:=builds_gives (v:=v) hw hG hg wg hq.ra
    exact⟨n',H',hB⟩
theorem params_ok:(Tryz.f3.params.toList.all fun t=>plainT Tryz.prog 10 t && Tryz.prog.readableRec t && decide (t<Tryz.prog.types.size))=true:=by kernel_rfl
theorem und_bool:Tryz.prog.underlying 4=some .bool:=by kernel_rfl
theorem contract(H:Type)(enc:TypeId × Value→H)(W:World)(base:Nat)(args:Array Value)(ds gs:List (DataW H))(before:List MemPlace)
  (hval:∀(j:Nat) t v,Tryz.f3.params[j]? = some t→args[j]? = some v→Value.okWide Tryz.prog W .any base t v)
  (hW:DataW.Whole enc Tryz.prog Tryz.f3.params.toList Rows.miniBuildsSpec.vars false W args.toList ds gs before) (hL:laidMetH Tryz.prog Rows.miniBuildsRow.laid W) (hS:W.ShapedOpen Tryz.prog) :
  Calls Tryz.prog 3 args W fun e W'=>∃v,e=.returned v∧Rows.miniBuildsSpec.post enc Tryz.prog Tryz.f3 false true false false W args v W':=by
 refine law_contract orders laid (d:=10) (tb:=4) runs rfl (fun ds hd=>?_) (fun t ht=>?_) rfl und_bool W base args ds gs before hval hW (globs (l:=Rows.miniBuildsRow.laid) hL hS ⟨2,rfl⟩)
 ·match ds,hd with
  | [d1,d2,d3],_=>rfl
 ·have:=List.all_eq_true.1 params_ok t ht
  simp only[Bool.and_eq_true,decide_eq_true_eq]at this
  exact⟨this.1.1,this.1.2,this.2⟩
theorem laid_met(os:Os):laidMet Tryz.prog Rows.miniBuildsRow.laid ((laidWorld os).forCall (fun _ _=>0) ⟨#[],#[.agg #[.slice none 0 0,.slice none 0 0,.slice none 0 0],.int .i64 0,.slice none 0 0],[]⟩).memory :=
 laid_world _ rfl
theorem reads(os:Os){H:Type}(enc:TypeId × Value→H):∃places,DataW.whole enc Tryz.prog ((laidWorld os).forCall (fun _ _=>0) ⟨#[],#[.agg #[.slice none 0 0,.slice none 0 0,.slice none 0 0],.int .i64 0,.slice none 0 0],[]⟩).memory Tryz.f3.params.toList Rows.miniBuildsSpec.vars false (#[.agg #[.slice none 0 0,.slice none 0 0,.slice none 0 0],.int .i64 0,.slice none 0 0]:Array Value).toList 8=some ([.agg [.nil,.nil,.nil],.lit (.int .i64 0),.nil],[],places) :=
 ⟨[],by kernel_rfl⟩
theorem lifted(os:Os)(started:os.Started)(H:Type)(enc:TypeId × Value→H)(F:Stop.Interp) :
  ReturnsInHanded {} Tryz.checked os 3 .any ((OpenSpec.ofChange Rows.miniBuildsSpec).preRow enc Tryz.prog Tryz.f3 Rows.miniBuildsRow.domain false Rows.miniBuildsRow.laid) (((OpenSpec.ofChange Rows.miniBuildsSpec).at F).post enc Tryz.prog Tryz.f3 false true false false):=by
 obtain⟨places,hx⟩:=reads os enc
 refine returnsInHanded_of_row (C:=Tryz.checked) (s:=OpenSpec.ofChange Rows.miniBuildsSpec) own started (by kernel_rfl) Tryz.func3
  (witness_zip (enc:=enc) (C:=Tryz.checked) (laidWorld os) #[.agg #[.slice none 0 0,.slice none 0 0,.slice none 0 0],.int .i64 0,.slice none 0 0] rfl (by kernel_rfl) (by kernel_rfl) (by kernel_rfl)
   (OpenSpec.preRow_of_cond 8 hx (by kernel_rfl) (fun k hk=>by cases hk) (by kernel_rfl) (laid_met os))) ?_
 intro W base args ds gs before hval hW _ _ _ hL hS _
 exact contract H enc W base args ds gs before hval hW hL hS
theorem said:Rows.MiniBuildsSaid :=
 OpenClaim.holds_of_cond 3 Tryz.f3 rfl rfl rfl rfl rfl rfl rfl ⟨rfl,rfl,rfl,rfl,rfl⟩ rfl rfl rfl rfl rfl (by kernel_rfl) Tryz.func3 (by kernel_rfl)
  (of_decide_eq_true (by kernel_rfl)) (by unfold Func.isWrapper;first|(rw[if_pos (by decide +kernel)];kernel_rfl)|(rw[if_neg (by decide +kernel)];exact⟨rfl,rfl⟩))
  (fun os started H enc _ F=>by rw[OpenClaim.pre_eq_preRow];exact lifted os started H enc F)
theorem plain (f : FuncId) (fn : Func) (hf : Tryz.pinned.checked.prog.funcNamed "accidence/accidencelaw16.MiniBuilds" = some f) (hfn : Tryz.pinned.checked.prog.funcs[f]? = some fn) :
  false=Tryz.pinned.checked.prog.looks []∧∀(j:Nat) t,fn.params[j]? = some t→Tryz.pinned.checked.prog.wantsStandIn t=false:=by
 obtain rfl : f = 3 := Option.some.inj ((show Tryz.prog.funcNamed "accidence/accidencelaw16.MiniBuilds" = some 3 by kernel_rfl).symm.trans hf) |>.symm
 obtain rfl:fn=Tryz.f3:=(Option.some.inj (Tryz.func3.symm.trans hfn)).symm
 refine⟨by kernel_rfl,fun j t ht=>?_⟩
 have h1:(Tryz.f3.params.toList.all fun t=>!Tryz.pinned.checked.prog.wantsStandIn t)=true:=by kernel_rfl
 have h2:=List.all_eq_true.1 h1 t (by have:=Array.mem_of_getElem? ht;simpa using this)
 rwa [Bool.not_eq_true']at h2
end Go.Proofs.YtjlgpanihjnaeaaGreatDoor.miniBuilds
namespace Go.Proofs.YtjlgpanihjnaeaaGreatDoor
open Go
set_option maxRecDepth 100000
theorem miniBuilds_holds:Rows.MiniBuildsCardSaid :=
 Claim7.holds_tied_plain_at .later [] _ _ _ _ miniBuilds.said (fun _ h=>by cases h) (by kernel_rfl) (fun _ h=>by cases h) miniBuilds_row_tie rfl ⟨rfl,rfl⟩ (by kernel_rfl) rfl miniBuilds.plain (by kernel_rfl)
#print axioms miniBuilds_holds
end Go.Proofs.YtjlgpanihjnaeaaGreatDoor
