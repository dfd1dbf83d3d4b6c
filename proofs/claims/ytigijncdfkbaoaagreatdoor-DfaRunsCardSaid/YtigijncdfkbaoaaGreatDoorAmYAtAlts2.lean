/- A part of a proof. Its conditions: none. -/
import Derived.Test.YtigijncdfkbaoaaGreatDoorAmYLfRight
import Derived.Test.YtigijncdfkbaoaaGreatDoorAmYKpD
import Derived.Test.YtigijncdfkbaoaaGreatDoorAmYKept
import Derived.Test.YtigijncdfkbaoaaGreatDoorAmC
import Derived.Test.YtigijncdfkbaoaaGreatDoorAmYFacts
import Derived.Test.YtigijncdfkbaoaaGreatDoorRows
import Derived.Test.YtigijncdfkbaoaaGreatDoorAmYDfPl
set_option linter.all false
namespace Go.Proofs.YtigijncdfkbaoaaGreatDoor
open Go.AM
set_option maxRecDepth 100000
def AllUse(g:Gram):Prop:=∀r∈g.rules,Usd g r.left∧∀s∈r.right,0≤s→Prd g s
theorem prd_in{g:Gram}(hi:InG g){v:Int}(h:Prd g v):0≤v∧v<g.vars.length:=by
 cases h with
 | mk i h h1=>exact⟨hi.left0 _ (List.getElem_mem h),hi.left1 _ (List.getElem_mem h)⟩
theorem hold_of{n:Nat}{p:Int→Prop}(hp:∀v,p v→0≤v∧v<n)(v:Int):hold ((List.range n).map fun i:Nat=>@decide (p i) (Classical.propDecidable _)) v↔p v:=by
 unfold hold
 constructor
 ·rintro⟨h0,h1⟩
  rw[List.getD_eq_getElem?_getD,List.getElem?_map]at h1
  by_cases hl:v.toNat<n
  ·rw[List.getElem?_range hl]at h1
   simp only[Option.map_some,Option.getD_some,decide_eq_true_eq]at h1
   rwa [Int.toNat_of_nonneg h0]at h1
  ·rw[List.getElem?_eq_none (by simp;omega)]at h1
   simp at h1
 ·intro h
  obtain⟨h0,h1⟩:=hp v h
  refine⟨h0,?_⟩
  rw[List.getD_eq_getElem?_getD,List.getElem?_map,List.getElem?_range (by omega)]
  simp only[Option.map_some,Option.getD_some,decide_eq_true_eq]
  rwa [Int.toNat_of_nonneg h0]
theorem kp_all{g:Gram}(hi:InG g){us ws:List Bool}(hus:∀v,hold us v↔Usd g v)(hws:∀v,hold ws v↔Prd g v){r:GRule}(hr:r∈g.rules)(h:kpB us ws r=true):Usd g r.left∧∀s∈r.right,0≤s→Prd g s:=by
 unfold kpB at h
 rw[Bool.and_eq_true]at h
 refine⟨(hus _).1 ⟨hi.left0 r hr,h.1⟩,fun s hs h0=>(hws s).1 ((prdB_hold.1 h.2) s hs h0)⟩
set_option maxHeartbeats 8000000 in
theorem whole12_gives{v:Value}{g:Gram}{n:Nat}{H:Heap}(hw:WF n H)(hg:RG H v g)(wg:WG g) :
  Gives Tryz.prog 6 [v] n H fun v _ _=>∃t:Int,v=.int .i64 t∧(t=0∨t=1∧RightX g∧few g=true∧AllUse g):=by
 have hg0:=hg
 obtain⟨pt,pv,pr,rfl,ht,hv,hr⟩:=hg
 refine Gives.of orders ok6 (Nat.le_of_ble_eq_true rfl) ?_
 have k1:=Kp.new n H (.cells (gcells pt pv pr g) 25 true)
 have hb:=hset_at H n (.cells (gcells pt pv pr g) 25 true)
 repeat refine qqn rfl ?_
 (refine qqr ?_;simp only[SS,qx21,vun,simprocAttr,box_cells,box_one,ff_6])
 generalize hset H n (.cells (gcells pt pv pr g) 25 true)=H1 at *
 have hw1:=k1.wf hw
 have hg1:=hg0.mono hw k1
 repeat (first|refine qqm rfl ?_|((first|refine qqr ?_|refine qqt ?_);simp only[SS,qx21,vun,simprocAttr,hb,gc_all,gc_len,ff_6]))
 refine AtCall.by (few_gives hw1 hg1 wg) ?_
 rintro v n2 H2 k2 rfl
 have hw2:=k2.wf hw1
 have hle2:=k2.le
 have hb2:=(k2.keep n (by omega)).trans hb
 have hg2:=hg1.mono hw1 k2
 have k12:=k1.trans k2
 cases hf:few g with
 | false =>
  simp only[SS,qx21,vun,simprocAttr,Bool.not_false,ff_6]
  repeat (first|refine qqm rfl ?_|((first|refine qqr ?_|refine qqt ?_);simp only[SS,qx21,vun,simprocAttr,ff_6]))
  first|refine qqf ?_ ?_|refine qqg ?_ ?_
  ·exact k12.keep
  ·simp only[packed,qv,Nat.reduceEqDiff,↓reduceIte,ff_6]
   exact⟨0,rfl,rfl⟩
 | true =>
  simp only[SS,qx21,vun,simprocAttr,Bool.not_true,hb2,gc_all,gc_len,ff_6]
  refine AtCall.by (rightX_gives hw2 hg2 wg) ?_
  rintro v n3 H3 k3 ⟨t,rfl,hok⟩
  have hw3:=k3.wf hw2
  have hle3:=k3.le
  have hb3:=(k3.keep n (by omega)).trans hb2
  have hg3:=hg2.mono hw2 k3
  have k13:=k12.trans k3
  cases t with
  | false =>
   simp only[SS,qx21,vun,simprocAttr,Bool.not_false,ff_6]
   repeat (first|refine qqm rfl ?_|((first|refine qqr ?_|refine qqt ?_);simp only[SS,qx21,vun,simprocAttr,ff_6]))
   first|refine qqf ?_ ?_|refine qqg ?_ ?_
   ·exact k13.keep
   ·simp only[packed,qv,Nat.reduceEqDiff,↓reduceIte,ff_6]
    exact⟨0,rfl,.inl rfl⟩
  | true =>
   have okx:=hok rfl
   have ok:=okx.toRightOK
   have hi:=ok.inG
   have hrl:=ok.rules
   have hus:=hold_of (n:=g.vars.length) (p:=Usd g) fun v h=>prd_in hi h.prd
   have hws:=hold_of (n:=g.vars.length) (p:=Prd g) fun v h=>prd_in hi h
   generalize hU:((List.range g.vars.length).map fun i:Nat=>@decide (Usd g i) (Classical.propDecidable _))=us at *
   generalize hW:((List.range g.vars.length).map fun i:Nat=>@decide (Prd g i) (Classical.propDecidable _))=ws at *
   have hul:us.length=g.vars.length:=by rw[←hU];simp
   have hwl:ws.length=g.vars.length:=by rw[←hW];simp
   simp only[SS,qx21,vun,simprocAttr,Bool.not_true,ff_6]
   repeat (first|refine qqm rfl ?_|((first|refine qqr ?_|refine qqt ?_);simp only[SS,qx21,vun,simprocAttr,hb3,gc_2,ff_6]))
   refine WK.loop (fun kk s=>∃i:Nat,Kp (n+1) H1 s.n s.H∧s.f 1=.pointer (some ⟨n,0,none⟩)∧s.f 14=.int .i64 (g.rules.length:Nat)∧s.f 15=.int .i64 (i:Nat)∧i≤g.rules.length∧(∀r∈g.rules.take i,kpB us ws r=true)∧kk=g.rules.length - i) g.rules.length ?_ ?_
   ·exact⟨0,k2.trans k3,rfl,rfl,rfl,Nat.zero_le _,fun r hr=>by simp at hr,rfl⟩
   clear k3 k13 hb3 hg3 hw3 hle3
   rintro kk ⟨f,n3,H3⟩ ⟨i,k3,f1,f14,f15,hil,hkp,rfl⟩ ih
   simp only at k3 f1 f14 f15 ih
   have hw3:=k3.wf hw1
   have hle3:=k3.le
   have hb3:=(k3.keep n (by omega)).trans hb
   have hg3:=hg1.mono hw1 k3
   by_cases hlt:i<g.rules.length
   ·have hiw:IntKind.i64.wrap ((i:Int)+1)=((i+1:Nat):Int):=by rw[wrap_in (by omega) (by omega)];rfl
    repeat (first|refine qqm rfl ?_|((first|refine qqr ?_|refine qqt ?_);simp only[SS,qx21,vun,simprocAttr,f1,f14,f15,hlt,hb3,gc_all,gc_len,ff_6]))
    refine AtCall.by (kept_gives hw3 hg3 wg ok hlt hul hwl hus hws) ?_
    rintro v n4 H4 k4 rfl
    cases hk:kpB us ws g.rules[i]with
    | false =>
     simp only[SS,qx21,vun,simprocAttr,Bool.not_false,ff_6]
     repeat (first|refine qqm rfl ?_|((first|refine qqr ?_|refine qqt ?_);simp only[SS,qx21,vun,simprocAttr,ff_6]))
     first|refine qqf ?_ ?_|refine qqg ?_ ?_
     ·exact(k1.trans (k3.trans k4)).keep
     ·simp only[packed,qv,Nat.reduceEqDiff,↓reduceIte,ff_6]
      exact⟨0,rfl,.inl rfl⟩
    | true =>
     simp only[SS,qx21,vun,simprocAttr,Bool.not_true,ff_6]
     repeat (first|refine qqm rfl ?_|((first|refine qqr ?_|refine qqt ?_);simp only[SS,qx21,vun,simprocAttr,f15,hiw,ff_6]))
     refine ih (g.rules.length - (i+1)) (by omega) _ ⟨i+1,k3.trans k4,f1,f14,rfl,hlt,fun r hr=>?_,rfl⟩
     rw[List.take_succ_eq_append_getElem hlt]at hr
     rcases List.mem_append.1 hr with hr|hr
     ·exact hkp r hr
     ·rw[List.mem_singleton]at hr;rw[hr];exact hk
   ·rw[List.take_of_length_le (by omega)]at hkp
    repeat (first|refine qqm rfl ?_|((first|refine qqr ?_|refine qqt ?_);simp only[SS,qx21,vun,simprocAttr,f1,f14,f15,hlt,ff_6]))
    first|refine qqf ?_ ?_|refine qqg ?_ ?_
    ·exact(k1.trans k3).keep
    ·simp only[packed,qv,Nat.reduceEqDiff,↓reduceIte,ff_6]
     exact⟨1,rfl,.inr ⟨rfl,okx,fun r hr=>kp_all hi hus hws hr (hkp r hr)⟩⟩
end Go.Proofs.YtigijncdfkbaoaaGreatDoor

namespace Go.Proofs.YtigijncdfkbaoaaGreatDoor
open Go.AM
set_option maxRecDepth 100000
theorem und_22:Tryz.prog.underlying 22=some (.slice 9):=by kernel_rfl
theorem und_23:Tryz.prog.underlying 23=some (.slice 70):=by kernel_rfl
theorem und_26:Tryz.prog.underlying 26=some (.slice 3):=by kernel_rfl
theorem und_25:∃f1 f2 f3:Field,Tryz.prog.underlying 25=some (.struct #[f1,f2,f3])∧f1.type=22∧f1.offset=0∧f2.type=22∧f2.offset=1∧f3.type=23∧f3.offset=2 :=
 ⟨{ name := "Terms", type := 22, offset := 0, embedded := false, tag := "", pkgPath := "", byteOffset := 0 }, { name := "Vars", type := 22, offset := 1, embedded := false, tag := "", pkgPath := "", byteOffset := 24 },
  { name := "Rules", type := 23, offset := 2, embedded := false, tag := "", pkgPath := "", byteOffset := 48 }, by kernel_rfl, rfl, rfl, rfl, rfl, rfl, rfl⟩
theorem und_70:∃f1 f2 f3:Field,Tryz.prog.underlying 70=some (.struct #[f1,f2,f3])∧f1.type=3∧f1.offset=0∧f2.type=26∧f2.offset=1∧f3.type=68∧f3.offset=2 :=
 ⟨{ name := "Left", type := 3, offset := 0, embedded := false, tag := "", pkgPath := "", byteOffset := 0 }, { name := "Right", type := 26, offset := 1, embedded := false, tag := "", pkgPath := "", byteOffset := 8 },
  { name := "Weight", type := 68, offset := 2, embedded := false, tag := "", pkgPath := "", byteOffset := 32 }, by kernel_rfl, rfl, rfl, rfl, rfl, rfl, rfl⟩
theorem gramT:GramT Tryz.prog 25 70 3 9 22 23 26 68:=⟨und_25,und_70,und_3,und_9,und_22,und_23,und_26,und_68,csz_3,csz_9,csz_22,csz_23,csz_26,csz_68,csz_70,csz_25⟩
theorem own:ownKnob Tryz.prog.godebug=none:=by kernel_rfl
theorem laid:laidOutB Tryz.prog=true:=by kernel_rfl
end Go.Proofs.YtigijncdfkbaoaaGreatDoor

namespace Go.Proofs.YtigijncdfkbaoaaGreatDoor
open Go.AM
set_option maxRecDepth 100000
def tens:List Value:=[.int .u64 1,.int .u64 10,.int .u64 100,.int .u64 1000,.int .u64 10000,.int .u64 100000,.int .u64 1000000,.int .u64 10000000,.int .u64 100000000,.int .u64 1000000000,.int .u64 10000000000,.int .u64 100000000000,.int .u64 1000000000000,.int .u64 10000000000000,.int .u64 100000000000000,.int .u64 1000000000000000,.int .u64 10000000000000000,.int .u64 100000000000000000,.int .u64 1000000000000000000,.int .u64 10000000000000000000]
theorem globs0{W:World}(hs:W.ShapedOpen Tryz.prog):Globs Tryz.prog W (fun _=>.dead):=by
 refine(fun(h:ngl Tryz.prog≤W.heap.size∧0<W.heap.size)=>⟨fun _ _=>rfl,fun _ h=>absurd rfl h,h.1,h.2⟩) ?_
 have hlast:ngl Tryz.prog - 1<W.heap.size:=by
  have hsome:(((begin Tryz.prog (fun _ _=>0) default).world.heap[ngl Tryz.prog - 1]?).bind Obj.row?).isSome=true:=by kernel_rfl
  obtain⟨⟨z,t⟩,hz⟩:=Option.isSome_iff_exists.1 hsome
  exact heap_of_shaped hs (of_decide_eq_true (by kernel_rfl)) hz
 exact⟨by omega,by omega⟩
noncomputable def deB32:List Value:=[0,1,28,2,29,14,24,3,30,22,20,15,25,17,4,8,31,27,13,23,21,19,16,7,26,12,18,6,11,5,10,9].map (Value.int .u8)
noncomputable def deB64:List Value:=[0,1,56,2,57,49,28,3,61,58,42,50,38,29,17,4,62,47,59,36,45,43,51,22,53,39,33,30,24,18,12,5,63,55,48,27,60,41,37,16,46,35,44,21,52,32,23,11,54,26,40,15,34,20,31,10,25,14,19,9,13,8,7,6].map (Value.int .u8)
noncomputable def rest:List Obj:=[.cells ((List.range Tryz.prog.types.size).map fun i=>.int .u64 i).toArray 0,.map #[] 0,.finalizers #[] none,.cells #[.bool false] 0,.finalizers #[] none]
noncomputable def laidHeap:Array Obj:=(([.cells tens.toArray 163,((begin Tryz.prog (fun _ _=>0) default).world.heap.toList.getD 1 (.map #[] 0)),.cells deB32.toArray 175,.cells deB64.toArray 176]:List Obj)++rest).toArray
noncomputable def laidWorld(os:Os):World:={ World.settled Tryz.prog os with heap:=laidHeap }
theorem laid_world(w:World)(hw:w.heap=laidHeap):laidMet Tryz.prog Rows.dfaHeadsRow.laid w:=by
 have hv:∀(nm:String) (g:Nat) (cs:List Value) (t:TypeId),Tryz.prog.globalNamed nm=some g→laidHeap[g]? = some (.cells cs.toArray t (0,0))→w.var? Tryz.prog nm=some cs.toArray:=by
  intro nm g cs t h1 h2
  unfold World.var?
  rw[h1,hw]
  simp[h2]
 refine laidMet_mk (ps:=MemPlace.row ⟨2,0,none⟩ 32++[]++(MemPlace.row ⟨3,0,none⟩ 64++[]++(MemPlace.row ⟨0,0,none⟩ 20++[]++[]))) 1400 [2,3,0] ?_ (by kernel_rfl) (by kernel_rfl) ?_
 ·exact ⟨2, 175, deB32.toArray, 2, [], _, by kernel_rfl, by kernel_rfl, hv "math/bits.deBruijn32tab" 2 deB32 175 (by kernel_rfl) rfl, by kernel_rfl, ⟨3, 176, deB64.toArray, 2, [], _, by kernel_rfl, by kernel_rfl, hv "math/bits.deBruijn64tab" 3 deB64 176 (by kernel_rfl) rfl, by kernel_rfl, ⟨0, 163, tens.toArray, 2, [], _, by kernel_rfl, by kernel_rfl, hv "internal/strconv.uint64pow10" 0 tens 163 (by kernel_rfl) rfl, by kernel_rfl, rfl, rfl⟩, rfl⟩, rfl⟩
 ·intro b hb
  simp only[List.mem_cons,List.mem_nil_iff,or_false]at hb
  rcases hb with rfl|rfl|rfl
  ·exact⟨(deB32).toArray,175,by rw[hw];rfl,by kernel_rfl⟩
  ·exact⟨(deB64).toArray,176,by rw[hw];rfl,by kernel_rfl⟩
  ·exact⟨(tens).toArray,163,by rw[hw];rfl,by kernel_rfl⟩
end Go.Proofs.YtigijncdfkbaoaaGreatDoor

namespace Go.Proofs.YtigijncdfkbaoaaGreatDoor
open Go.AM
set_option maxRecDepth 100000
theorem alt_at{cs:List Value}{k:Nat}{x:CA}(h:(cs.drop k).take 4=ccell x):cs[k]? = some (.int .i64 x.1.alt):=by
 have h1:((cs.drop k).take 4)[0]? = (ccell x)[0]?:=by rw[h]
 rw[List.getElem?_take,List.getElem?_drop]at h1
 simpa [ccell] using h1
theorem rise_ins{R:List Int}{a:Int}{at_:Nat}(h:R.Pairwise (· < ·))(hal:at_≤R.length)(hlo:∀q (h:q<R.length),q<at_→R[q]<a)(hhi:∀q (h:q<R.length),at_≤q→a<R[q]):(R.take at_++[a]++R.drop at_).Pairwise (· < ·):=by
 have hT:∀x∈R.take at_,x<a:=fun x hx=>by
  obtain⟨q,hq,rfl⟩:=List.getElem_of_mem hx
  rw[List.length_take]at hq
  rw[List.getElem_take]
  exact hlo q (by omega) (by omega)
 have hD:∀x∈R.drop at_,a<x:=fun x hx=>by
  obtain⟨q,hq,rfl⟩:=List.getElem_of_mem hx
  rw[List.length_drop]at hq
  rw[List.getElem_drop]
  exact hhi _ (by omega) (by omega)
 rw[List.append_assoc,List.pairwise_append]
 refine⟨h.sublist (List.take_sublist _ _),?_,fun x hx y hy=>?_⟩
 ·rw[List.singleton_append,List.pairwise_cons]
  exact⟨hD,h.sublist (List.drop_sublist _ _)⟩
 ·rw[List.singleton_append,List.mem_cons]at hy
  rcases hy with rfl|hy
  ·exact hT x hx
  ·exact Int.lt_trans (hT x hx) (hD y hy)
set_option maxHeartbeats 16000000 in
theorem alts14_gives {n : Nat} {H : Heap} {p : Option Addr} {L : List CA} (hw : WF n H) (hL : RN 4 ccell H p L) (hl : L.length ≤ 65536) :
    Gives Tryz.prog 21 [.slice p L.length L.length] n H fun v _ H' => ∃ p' R, v = .slice p' R.length R.length ∧ RA (Value.int .i64) H' p' R ∧ AltsL (L.map (·.1)) R ∧ R.length ≤ L.length := by
  refine Gives.of orders ok21 (Nat.le_of_ble_eq_true rfl) ?_
  repeat (first | apply WK.seq | apply WK.block | apply WK.skipSeq | apply WK.skipBlock | apply WK.retSeq | apply WK.retBlock | apply WK.exitSeq | apply WK.exitHere | refine WK.exitOn rfl ?_)
  (refine WK.rgn ?_ ?_; kernel_rfl; simp (config := { maxSteps := 1000000 }) only [SS, qx23, forall_const, tap, tap2, tap3, tap4, tsrc, tsrc2, Int.reduceEq, Int.reduceNeg, Nat.reduceGT, Nat.reduceLT, Nat.reduceLeDiff, Nat.reduceEqDiff, ↓reduceIte, reduceCtorEq, Int.reduceToNat, Int.reduceLE, Int.reduceLT, Nat.reduceAdd, Nat.reduceMul, ff_21])
  repeat (first | apply WK.seq | apply WK.block | apply WK.skipSeq | apply WK.skipBlock | apply WK.retSeq | apply WK.retBlock | apply WK.exitSeq | apply WK.exitHere | refine WK.exitOn rfl ?_)
  (refine WK.rgn ?_ ?_; kernel_rfl; simp (config := { maxSteps := 1000000 }) only [SS, qx23, forall_const, tap, tap2, tap3, tap4, tsrc, tsrc2, Int.reduceEq, Int.reduceNeg, Nat.reduceGT, Nat.reduceLT, Nat.reduceLeDiff, Nat.reduceEqDiff, ↓reduceIte, reduceCtorEq, Int.reduceToNat, Int.reduceLE, Int.reduceLT, Nat.reduceAdd, Nat.reduceMul, ff_21])
  have k1 := Kp.new n H (.cells [] 3 true)
  have hO := hset_at H n (.cells [] 3 true)
  generalize hset H n (.cells [] 3 true) = H1 at *
  repeat (first | apply WK.seq | apply WK.block | apply WK.skipSeq | apply WK.skipBlock | apply WK.retSeq | apply WK.retBlock | apply WK.exitSeq | apply WK.exitHere | refine WK.exitOn rfl ?_ | ((first | (refine WK.rgn ?_ ?_; kernel_rfl) | refine AtCall.now ?_); simp (config := { maxSteps := 1000000 }) only [SS, qx23, forall_const, tap, tap2, tap3, tap4, tsrc, tsrc2, Int.reduceEq, Int.reduceNeg, Nat.reduceGT, Nat.reduceLT, Nat.reduceLeDiff, Nat.reduceEqDiff, ↓reduceIte, reduceCtorEq, Int.reduceToNat, Int.reduceLE, Int.reduceLT, Nat.reduceAdd, Nat.reduceMul, ff_21]) | (refine WK.condT ?_ ?_; focus (simp only [ev_tmp, ev_const, fset_apply, Nat.reduceEqDiff, ↓reduceIte, decide_true, decide_false, ff_21]; done)) | (refine WK.condF ?_ ?_; focus (simp only [ev_tmp, ev_const, fset_apply, Nat.reduceEqDiff, ↓reduceIte, decide_true, decide_false, ff_21]; done)))
  refine WK.loop (fun kk s => ∃ (i y : Nat) (R : List Int), Kp n H s.n s.H ∧ n ≤ y ∧ y < s.n ∧ s.H y = .cells (R.map (Value.int .i64)) 3 true ∧ s.f 0 = .slice p L.length L.length ∧ s.f 3 = lv y R ∧ s.f 4 = .int .i64 (i : Nat) ∧ i ≤ L.length ∧ R.length ≤ i ∧ AltsL ((L.take i).map (·.1)) R ∧ kk = L.length - i) L.length ?_ ?_
  · exact ⟨0, n, [], k1, Nat.le_refl _, Nat.lt_succ_self _, hO, rfl, rfl, rfl, Nat.zero_le _, Nat.zero_le _, ⟨List.Pairwise.nil, by simp⟩, rfl⟩
  rintro kk ⟨f, n5, H5⟩ ⟨i, y, R, k5, hy0, hyn, hy, f0, f3, f4, hil, hRl, hR, rfl⟩ ih
  simp only at k5 hyn hy f0 f3 f4 ih
  have hle5 := k5.le
  have hw5 := k5.wf hw
  by_cases hlt : i < L.length
  · have hiw : IntKind.i64.wrap ((i : Int) + 1) = ((i + 1 : Nat) : Int) := by rw [wrap_in (by omega) (by omega)]; rfl
    obtain ⟨u, k0, cs, ty, own, q1, q2, q3, q4⟩ := (hL.mono hw k5).at ccell_len hlt
    subst q1
    have hun := live_lt hw5 (live_of q2)
    have hal := alt_at q3
    have htk : (L.take (i + 1)).map (·.1) = (L.take i).map (·.1) ++ [L[i].1] := by
      rw [List.take_add_one, List.getElem?_eq_getElem hlt, List.map_append]; rfl
    have hRm : (R.map (Value.int .i64)).length = R.length := List.length_map _
    generalize hz : L[i] = z at *
    repeat (first | apply WK.seq | apply WK.block | apply WK.skipSeq | apply WK.skipBlock | apply WK.retSeq | apply WK.retBlock | apply WK.exitSeq | apply WK.exitHere | refine WK.exitOn rfl ?_ | ((first | (refine WK.rgn ?_ ?_; kernel_rfl) | refine AtCall.now ?_); simp (config := { maxSteps := 1000000 }) only [SS, qx23, forall_const, tap, tap2, tap3, tap4, tsrc, tsrc2, Int.reduceEq, Int.reduceNeg, Nat.reduceGT, Nat.reduceLT, Nat.reduceLeDiff, Nat.reduceEqDiff, ↓reduceIte, reduceCtorEq, Int.reduceToNat, Int.reduceLE, Int.reduceLT, Nat.reduceAdd, Nat.reduceMul, f0, f4, hlt, ff_21]) | (refine WK.condT ?_ ?_; focus (simp only [ev_tmp, ev_const, fset_apply, Nat.reduceEqDiff, ↓reduceIte, decide_true, decide_false, f0, f4, hlt, ff_21]; done)) | (refine WK.condF ?_ ?_; focus (simp only [ev_tmp, ev_const, fset_apply, Nat.reduceEqDiff, ↓reduceIte, decide_true, decide_false, f0, f4, hlt, ff_21]; done)))
    refine WK.cutBlk (fun s => ∃ a : Nat, s.n = n5 ∧ s.H = H5 ∧ s.f 0 = .slice (some ⟨u, k0, none⟩) L.length L.length ∧ s.f 3 = lv y R ∧ s.f 4 = .int .i64 (i : Nat) ∧ s.f 5 = .int .i64 (a : Nat) ∧ a ≤ R.length ∧ (∀ q (h : q < R.length), q < a → R[q] < z.1.alt) ∧ (∀ h : a < R.length, z.1.alt ≤ R[a])) ?_ ?_
    · refine WK.loop (fun kk s => ∃ a : Nat, s.n = n5 ∧ s.H = H5 ∧ s.f 0 = .slice (some ⟨u, k0, none⟩) L.length L.length ∧ s.f 3 = lv y R ∧ s.f 4 = .int .i64 (i : Nat) ∧ s.f 5 = .int .i64 (a : Nat) ∧ a ≤ R.length ∧ (∀ q (h : q < R.length), q < a → R[q] < z.1.alt) ∧ kk = R.length - a) R.length ?_ ?_
      · exact ⟨0, rfl, rfl, f0, f3, f4, rfl, Nat.zero_le _, fun q h h' => by omega, rfl⟩
      clear f0 f3 f4 ih
      rintro kk ⟨f, n6, H6⟩ ⟨a, e1, e2, f0, f3, f4, f5, hal', hlo, hkk⟩ ih2
      simp only at e1 e2 f0 f3 f4 f5 ih2
      subst e1
      subst e2
      by_cases ha : a < R.length
      · have haw : IntKind.i64.wrap ((a : Int) + 1) = ((a + 1 : Nat) : Int) := by rw [wrap_in (by omega) (by omega)]; rfl
        have hra := int_at ha
        by_cases hless : R[a] < z.1.alt
        · have hless' : (R[a] < z.1.alt) = True := eq_true hless
          repeat (first | apply WK.seq | apply WK.block | apply WK.skipSeq | apply WK.skipBlock | apply WK.retSeq | apply WK.retBlock | apply WK.exitSeq | apply WK.exitHere | refine WK.exitOn rfl ?_ | ((first | (refine WK.rgn ?_ ?_; kernel_rfl) | refine AtCall.now ?_); simp (config := { maxSteps := 1000000 }) only [SS, qx23, forall_const, tap, tap2, tap3, tap4, tsrc, tsrc2, Int.reduceEq, Int.reduceNeg, Nat.reduceGT, Nat.reduceLT, Nat.reduceLeDiff, Nat.reduceEqDiff, ↓reduceIte, reduceCtorEq, Int.reduceToNat, Int.reduceLE, Int.reduceLT, Nat.reduceAdd, Nat.reduceMul, f0, f3, f4, f5, ha, hlt, hy, hRm, hra, q2, hal, hless', decide_true, haw, Nat.zero_add, Nat.mul_one, ff_21]) | (refine WK.condT ?_ ?_; focus (simp only [ev_tmp, ev_const, fset_apply, Nat.reduceEqDiff, ↓reduceIte, decide_true, decide_false, f0, f3, f4, f5, ha, hlt, hy, hRm, hra, q2, hal, hless', decide_true, haw, Nat.zero_add, Nat.mul_one, ff_21]; done)) | (refine WK.condF ?_ ?_; focus (simp only [ev_tmp, ev_const, fset_apply, Nat.reduceEqDiff, ↓reduceIte, decide_true, decide_false, f0, f3, f4, f5, ha, hlt, hy, hRm, hra, q2, hal, hless', decide_true, haw, Nat.zero_add, Nat.mul_one, ff_21]; done)))
          refine ih2 (R.length - (a + 1)) (by omega) _ ?_
          refine ⟨a + 1, rfl, rfl, f0, f3, f4, rfl, ha, fun q h h' => ?_, rfl⟩
          by_cases hq : q = a
          · subst hq; exact hless
          · exact hlo q h (by omega)
        · have hless' : (R[a] < z.1.alt) = False := eq_false hless
          repeat (first | apply WK.seq | apply WK.block | apply WK.skipSeq | apply WK.skipBlock | apply WK.retSeq | apply WK.retBlock | apply WK.exitSeq | apply WK.exitHere | refine WK.exitOn rfl ?_ | ((first | (refine WK.rgn ?_ ?_; kernel_rfl) | refine AtCall.now ?_); simp (config := { maxSteps := 1000000 }) only [SS, qx23, forall_const, tap, tap2, tap3, tap4, tsrc, tsrc2, Int.reduceEq, Int.reduceNeg, Nat.reduceGT, Nat.reduceLT, Nat.reduceLeDiff, Nat.reduceEqDiff, ↓reduceIte, reduceCtorEq, Int.reduceToNat, Int.reduceLE, Int.reduceLT, Nat.reduceAdd, Nat.reduceMul, f0, f3, f4, f5, ha, hlt, hy, hRm, hra, q2, hal, hless', decide_true, decide_false, Nat.zero_add, Nat.mul_one, ff_21]) | (refine WK.condT ?_ ?_; focus (simp only [ev_tmp, ev_const, fset_apply, Nat.reduceEqDiff, ↓reduceIte, decide_true, decide_false, f0, f3, f4, f5, ha, hlt, hy, hRm, hra, q2, hal, hless', decide_true, decide_false, Nat.zero_add, Nat.mul_one, ff_21]; done)) | (refine WK.condF ?_ ?_; focus (simp only [ev_tmp, ev_const, fset_apply, Nat.reduceEqDiff, ↓reduceIte, decide_true, decide_false, f0, f3, f4, f5, ha, hlt, hy, hRm, hra, q2, hal, hless', decide_true, decide_false, Nat.zero_add, Nat.mul_one, ff_21]; done)))
          exact WK.skipNil ⟨rfl, a, rfl, rfl, f0, f3, f4, f5, hal', hlo, fun _ => by omega⟩
      · repeat (first | apply WK.seq | apply WK.block | apply WK.skipSeq | apply WK.skipBlock | apply WK.retSeq | apply WK.retBlock | apply WK.exitSeq | apply WK.exitHere | refine WK.exitOn rfl ?_ | ((first | (refine WK.rgn ?_ ?_; kernel_rfl) | refine AtCall.now ?_); simp (config := { maxSteps := 1000000 }) only [SS, qx23, forall_const, tap, tap2, tap3, tap4, tsrc, tsrc2, Int.reduceEq, Int.reduceNeg, Nat.reduceGT, Nat.reduceLT, Nat.reduceLeDiff, Nat.reduceEqDiff, ↓reduceIte, reduceCtorEq, Int.reduceToNat, Int.reduceLE, Int.reduceLT, Nat.reduceAdd, Nat.reduceMul, f0, f3, f4, f5, ha, decide_false, ff_21]) | (refine WK.condT ?_ ?_; focus (simp only [ev_tmp, ev_const, fset_apply, Nat.reduceEqDiff, ↓reduceIte, decide_true, decide_false, f0, f3, f4, f5, ha, decide_false, ff_21]; done)) | (refine WK.condF ?_ ?_; focus (simp only [ev_tmp, ev_const, fset_apply, Nat.reduceEqDiff, ↓reduceIte, decide_true, decide_false, f0, f3, f4, f5, ha, decide_false, ff_21]; done)))
        exact WK.skipNil ⟨rfl, a, rfl, rfl, f0, f3, f4, f5, hal', hlo, fun h => absurd h ha⟩
    clear f0 f3 f4
    rintro ⟨f, n6, H6⟩ ⟨a, e1, e2, f0, f3, f4, f5, hal', hlo, hhi⟩
    simp only at e1 e2 f0 f3 f4 f5
    subst e1
    subst e2
    by_cases hput : ∃ h : a < R.length, R[a] = z.1.alt
    · obtain ⟨ha, he⟩ := hput
      have hra := int_at ha
      have hane : ((a : Int) = (R.length : Int)) = False := eq_false (by omega)
      have he' : (R[a] = z.1.alt) = True := eq_true he
      repeat (first | apply WK.seq | apply WK.block | apply WK.skipSeq | apply WK.skipBlock | apply WK.retSeq | apply WK.retBlock | apply WK.exitSeq | apply WK.exitHere | refine WK.exitOn rfl ?_ | ((first | (refine WK.rgn ?_ ?_; kernel_rfl) | refine AtCall.now ?_); simp (config := { maxSteps := 1000000 }) only [SS, qx23, forall_const, tap, tap2, tap3, tap4, tsrc, tsrc2, Int.reduceEq, Int.reduceNeg, Nat.reduceGT, Nat.reduceLT, Nat.reduceLeDiff, Nat.reduceEqDiff, ↓reduceIte, reduceCtorEq, Int.reduceToNat, Int.reduceLE, Int.reduceLT, Nat.reduceAdd, Nat.reduceMul, f0, f3, f4, f5, ha, hane, hlt, hy, hRm, hra, q2, hal, he', decide_true, decide_false, Bool.not_true, hiw, Nat.zero_add, Nat.mul_one, ff_21]) | (refine WK.condT ?_ ?_; focus (simp only [ev_tmp, ev_const, fset_apply, Nat.reduceEqDiff, ↓reduceIte, decide_true, decide_false, f0, f3, f4, f5, ha, hane, hlt, hy, hRm, hra, q2, hal, he', decide_true, decide_false, Bool.not_true, hiw, Nat.zero_add, Nat.mul_one, ff_21]; done)) | (refine WK.condF ?_ ?_; focus (simp only [ev_tmp, ev_const, fset_apply, Nat.reduceEqDiff, ↓reduceIte, decide_true, decide_false, f0, f3, f4, f5, ha, hane, hlt, hy, hRm, hra, q2, hal, he', decide_true, decide_false, Bool.not_true, hiw, Nat.zero_add, Nat.mul_one, ff_21]; done)))
      refine ih (L.length - (i + 1)) (by omega) _ ?_
      refine ⟨i + 1, y, R, k5, hy0, hyn, hy, f0, f3, rfl, hlt, by omega, ⟨hR.1, fun b => ?_⟩, rfl⟩
      rw [hR.2, htk, List.map_append, List.mem_append]
      constructor
      · exact .inl
      · rintro (h | h)
        · exact h
        · simp at h; rw [h, ← he]; exact (hR.2 _).1 (List.getElem_mem ha)
    · have hhi' : ∀ q (h : q < R.length), a ≤ q → z.1.alt < R[q] := fun q h h' => by
        have h1 := hhi (by omega)
        have h2 : R[a]'(by omega) ≠ z.1.alt := fun e => hput ⟨by omega, e⟩
        by_cases hq : q = a
        · subst hq; omega
        · have := List.pairwise_iff_getElem.1 hR.1 a q (by omega) h (by omega); omega
      have hR' : AltsL ((L.take (i + 1)).map (·.1)) (R.take a ++ [z.1.alt] ++ R.drop a) := by
        refine ⟨rise_ins hR.1 hal' hlo hhi', fun b => ?_⟩
        have e : b ∈ R.take a ++ [z.1.alt] ++ R.drop a ↔ b ∈ R ∨ b = z.1.alt := by
          rw [List.mem_append, List.mem_append, List.mem_singleton]
          conv => rhs; rw [← List.take_append_drop a R, List.mem_append]
          constructor
          · rintro ((h | h) | h)
            · exact .inl (.inl h)
            · exact .inr h
            · exact .inl (.inr h)
          · rintro ((h | h) | h)
            · exact .inl (.inl h)
            · exact .inr h
            · exact .inl (.inr h)
        rw [e, htk, List.map_append, List.mem_append, ← hR.2]
        simp
      have q5 : ∀ o, hset H6 n6 o y = _ := fun o => (hset_ne _ _ _ (by omega)).trans hy
      have hb5 : a + (R.length - a) ≤ R.length := by omega
      have bl5 : R.length - a ≤ bigN := by unfold bigN; omega
      have hct5 : [y].contains n6 = false := by simp; omega
      have ft2 : (R.map (Value.int .i64)).drop a = (R.drop a).map (Value.int .i64) := List.map_drop.symm
      have ft1 : (R.map (Value.int .i64)).take a = (R.take a).map (Value.int .i64) := List.map_take.symm
      have ft3 : ((R.drop a).map (Value.int .i64)).take (R.length - a) = (R.drop a).map (Value.int .i64) := List.take_of_length_le (by rw [List.length_map, List.length_drop]; omega)
      have hcond : ((a : Int) = (R.length : Int)) ∨ ∃ h : a < R.length, ¬ R[a] = z.1.alt := by
        by_cases ha : a < R.length
        · exact .inr ⟨ha, fun e => hput ⟨ha, e⟩⟩
        · exact .inl (by omega)
      repeat (first | apply WK.seq | apply WK.block | apply WK.skipSeq | apply WK.skipBlock | apply WK.retSeq | apply WK.retBlock | apply WK.exitSeq | apply WK.exitHere | refine WK.exitOn rfl ?_)
      refine WK.cut (fun s => s.n = n6 ∧ s.H = H6 ∧ s.f 0 = .slice (some ⟨u, k0, none⟩) L.length L.length ∧ s.f 3 = lv y R ∧ s.f 4 = .int .i64 (i : Nat) ∧ s.f 5 = .int .i64 (a : Nat) ∧ s.f 47 = .bool true) ?_ ?_
      · rcases hcond with he | ⟨ha, he⟩
        · have he' : ((a : Int) = (R.length : Int)) = True := eq_true he
          (refine WK.rgn ?_ ?_; kernel_rfl; simp (config := { maxSteps := 1000000 }) only [SS, qx23, forall_const, tap, tap2, tap3, tap4, tsrc, tsrc2, Int.reduceEq, Int.reduceNeg, Nat.reduceGT, Nat.reduceLT, Nat.reduceLeDiff, Nat.reduceEqDiff, ↓reduceIte, reduceCtorEq, Int.reduceToNat, Int.reduceLE, Int.reduceLT, Nat.reduceAdd, Nat.reduceMul, f0, f3, f4, f5, he', decide_true, ff_21])
          exact WK.skipNil ⟨rfl, rfl, rfl, f0, f3, f4, f5, rfl⟩
        · have hra := int_at ha
          have hane : ((a : Int) = (R.length : Int)) = False := eq_false (by omega)
          have he' : (R[a] = z.1.alt) = False := eq_false he
          (refine WK.rgn ?_ ?_; kernel_rfl; simp (config := { maxSteps := 1000000 }) only [SS, qx23, forall_const, tap, tap2, tap3, tap4, tsrc, tsrc2, Int.reduceEq, Int.reduceNeg, Nat.reduceGT, Nat.reduceLT, Nat.reduceLeDiff, Nat.reduceEqDiff, ↓reduceIte, reduceCtorEq, Int.reduceToNat, Int.reduceLE, Int.reduceLT, Nat.reduceAdd, Nat.reduceMul, f0, f3, f4, f5, ha, hane, hlt, hy, hRm, hra, q2, hal, he', decide_true, decide_false, Bool.not_false, Nat.zero_add, Nat.mul_one, ff_21])
          exact WK.skipNil ⟨rfl, rfl, rfl, f0, f3, f4, f5, rfl⟩
      clear f0 f3 f4 f5
      rintro ⟨f, n7, H7⟩ ⟨e1, e2, f0, f3, f4, f5, f47⟩
      simp only at e1 e2 f0 f3 f4 f5 f47
      subst e1
      subst e2
      repeat (first | apply WK.seq | apply WK.block | apply WK.skipSeq | apply WK.skipBlock | apply WK.retSeq | apply WK.retBlock | apply WK.exitSeq | apply WK.exitHere | refine WK.exitOn rfl ?_)
      first | (refine WK.condT ?_ ?_; focus (simp only [ev_tmp, ev_const, fset_apply, Nat.reduceEqDiff, ↓reduceIte, decide_true, decide_false, f47]; done)) | (refine WK.condF ?_ ?_; focus (simp only [ev_tmp, ev_const, fset_apply, Nat.reduceEqDiff, ↓reduceIte, decide_true, decide_false, f47]; done))
      apply WK.seq
      (refine WK.rgn ?_ ?_; kernel_rfl; simp (config := { maxSteps := 1000000 }) only [SS, qx23, forall_const, tap, tap2, tap3, tap4, tsrc, tsrc2, Int.reduceEq, Int.reduceNeg, Nat.reduceGT, Nat.reduceLT, Nat.reduceLeDiff, Nat.reduceEqDiff, ↓reduceIte, reduceCtorEq, Int.reduceToNat, Int.reduceLE, Int.reduceLT, Nat.reduceAdd, Nat.reduceMul, f3, f5, hy, q5, hal', hRm, hb5, bl5, hct5, ft2, ft3, isz_3, hset_at, Nat.le_refl, implies_true, Nat.zero_mul, Nat.mul_one, Nat.add_zero, Nat.zero_add, Nat.sub_zero, Nat.zero_le, ff_21])
      have k9 : Kp n7 H7 (n7 + 1 + 1) (hset (hset H7 n7 .dead) (n7 + 1) (.cells (List.take 0 (List.drop 0 []) ++ (R.drop a).map (Value.int .i64)) 3 true)) := (Kp.new n7 H7 .dead).trans (Kp.new (n7 + 1) _ _)
      have hr9 : (hset (hset H7 n7 .dead) (n7 + 1) (.cells (List.take 0 (List.drop 0 []) ++ (R.drop a).map (Value.int .i64)) 3 true)) (n7 + 1) = .cells ((R.drop a).map (Value.int .i64)) 3 true := hset_at _ _ _
      generalize (hset (hset H7 n7 .dead) (n7 + 1) (.cells (List.take 0 (List.drop 0 []) ++ (R.drop a).map (Value.int .i64)) 3 true)) = H9 at *
      have hyo9 := (k9.keep y (by omega)).trans hy
      have hu9 := (k9.keep u (by omega)).trans q2
      have hfd : ((R.drop a).map (Value.int .i64)).length = R.length - a := by rw [List.length_map, List.length_drop]
      have hft : ((R.take a).map (Value.int .i64)).length = a := by rw [List.length_map, List.length_take, Nat.min_eq_left hal']
      have m1 : ∀ o, hset H9 (n7 + 1 + 1) o y = _ := fun o => (hset_ne _ _ _ (by omega)).trans hyo9
      have m2 : ∀ o o' o'', hset (hset (hset H9 (n7 + 1 + 1) o) y o') (n7 + 1 + 1 + 1) o'' (n7 + 1) = _ := fun o o' o'' => (hset_ne _ _ _ (by omega)).trans ((hset_ne _ _ _ (by omega)).trans ((hset_ne _ _ _ (by omega)).trans hr9))
      have c1 : [n7 + 1 + 1].contains y = false := by simp; omega
      have c2 : [n7 + 1].contains (n7 + 1 + 1 + 1) = false := by simp; omega
      have b1 : a + 1 ≤ bigN := by unfold bigN; omega
      have b2 : a + 1 + (R.length - a) ≤ bigN := by unfold bigN; omega
      have w1 : [Value.int .i64 z.1.alt].take 1 = [Value.int .i64 z.1.alt] := rfl
      have e1 : ((R.take a).map (Value.int .i64) ++ [Value.int .i64 z.1.alt]).length = a + 1 := by rw [List.length_append, hft]; rfl
      have e2 : ((R.take a).map (Value.int .i64) ++ [Value.int .i64 z.1.alt]).take (a + 1) = (R.take a).map (Value.int .i64) ++ [Value.int .i64 z.1.alt] := List.take_of_length_le (by omega)
      have e3 : ((R.drop a).map (Value.int .i64)).take (R.length - a) = (R.drop a).map (Value.int .i64) := List.take_of_length_le (by omega)
      repeat (first | apply WK.seq | apply WK.block | apply WK.skipSeq | apply WK.skipBlock | apply WK.retSeq | apply WK.retBlock | apply WK.exitSeq | apply WK.exitHere | refine WK.exitOn rfl ?_)
      (refine WK.rgn ?_ ?_; kernel_rfl; simp (config := { maxSteps := 1000000 }) only [SS, qx23, forall_const, tap, tap2, tap3, tap4, tsrc, tsrc2, Int.reduceEq, Int.reduceNeg, Nat.reduceGT, Nat.reduceLT, Nat.reduceLeDiff, Nat.reduceEqDiff, ↓reduceIte, reduceCtorEq, Int.reduceToNat, Int.reduceLE, Int.reduceLT, Nat.reduceAdd, Nat.reduceMul, f0, f3, f4, f5, hlt, hyo9, hu9, hal, hr9, m1, m2, c1, c2, b1, b2, w1, e1, e2, e3, hal', hRm, hfd, hft, ft1, isz_3, hset_at, Nat.le_refl, implies_true, List.drop_zero, Nat.zero_mul, Nat.mul_one, Nat.add_zero, Nat.zero_add, Nat.sub_zero, Nat.zero_le, ff_21])
      have hR2 : (R.take a ++ [z.1.alt] ++ R.drop a).length = a + 1 + (R.length - a) := by simp; omega
      have k10 : ∀ X C, Kx (fun z => z = y) n7 H7 (n7 + 1 + 1 + 1 + 1 + 1) (hset (hset (hset (hset H9 (n7 + 1 + 1) X) y .dead) (n7 + 1 + 1 + 1) .dead) (n7 + 1 + 1 + 1 + 1) C) := fun X C => ((((k9.trans (Kp.new (n7 + 1 + 1) H9 X)).kx (X := fun z => z = y)).set (x := y) .dead (.inl rfl) (by omega)).trans (Kp.new (n7 + 1 + 1 + 1) _ .dead).kx).trans (Kp.new (n7 + 1 + 1 + 1 + 1) _ C).kx
      have k10' := k10 (.cells [.int .i64 z.1.alt] 3 true) (.cells ((R.take a).map (Value.int .i64) ++ [.int .i64 z.1.alt] ++ (R.drop a).map (Value.int .i64)) 3 true)
      repeat (first | apply WK.seq | apply WK.block | apply WK.skipSeq | apply WK.skipBlock | apply WK.retSeq | apply WK.retBlock | apply WK.exitSeq | apply WK.exitHere | refine WK.exitOn rfl ?_ | ((first | (refine WK.rgn ?_ ?_; kernel_rfl) | refine AtCall.now ?_); simp (config := { maxSteps := 1000000 }) only [SS, qx23, forall_const, tap, tap2, tap3, tap4, tsrc, tsrc2, Int.reduceEq, Int.reduceNeg, Nat.reduceGT, Nat.reduceLT, Nat.reduceLeDiff, Nat.reduceEqDiff, ↓reduceIte, reduceCtorEq, Int.reduceToNat, Int.reduceLE, Int.reduceLT, Nat.reduceAdd, Nat.reduceMul, f4, hiw, ff_21]) | (refine WK.condT ?_ ?_; focus (simp only [ev_tmp, ev_const, fset_apply, Nat.reduceEqDiff, ↓reduceIte, decide_true, decide_false, f4, hiw, ff_21]; done)) | (refine WK.condF ?_ ?_; focus (simp only [ev_tmp, ev_const, fset_apply, Nat.reduceEqDiff, ↓reduceIte, decide_true, decide_false, f4, hiw, ff_21]; done)))
      refine ih (L.length - (i + 1)) (by omega) _ ?_
      refine ⟨i + 1, n7 + 1 + 1 + 1 + 1, R.take a ++ [z.1.alt] ++ R.drop a, ⟨by show n ≤ n7 + 1 + 1 + 1 + 1 + 1; omega, fun q hq => (k10'.keep q (by omega) (by omega)).trans (k5.keep q hq), fun h => k10'.wf (k5.wf h)⟩, by omega, Nat.lt_succ_self _, ?_, f0, ?_, rfl, hlt, by rw [hR2]; omega, hR', rfl⟩
      · rw [List.map_append, List.map_append]; exact hset_at _ _ _
      · show Value.slice _ _ _ = lv _ _
        unfold lv
        rw [hR2]
  · obtain rfl : i = L.length := by omega
    rw [List.take_length] at hR
    repeat (first | apply WK.seq | apply WK.block | apply WK.skipSeq | apply WK.skipBlock | apply WK.retSeq | apply WK.retBlock | apply WK.exitSeq | apply WK.exitHere | refine WK.exitOn rfl ?_ | ((first | (refine WK.rgn ?_ ?_; kernel_rfl) | refine AtCall.now ?_); simp (config := { maxSteps := 1000000 }) only [SS, qx23, forall_const, tap, tap2, tap3, tap4, tsrc, tsrc2, Int.reduceEq, Int.reduceNeg, Nat.reduceGT, Nat.reduceLT, Nat.reduceLeDiff, Nat.reduceEqDiff, ↓reduceIte, reduceCtorEq, Int.reduceToNat, Int.reduceLE, Int.reduceLT, Nat.reduceAdd, Nat.reduceMul, f0, f3, f4, hlt, ff_21]) | (refine WK.condT ?_ ?_; focus (simp only [ev_tmp, ev_const, fset_apply, Nat.reduceEqDiff, ↓reduceIte, decide_true, decide_false, f0, f3, f4, hlt, ff_21]; done)) | (refine WK.condF ?_ ?_; focus (simp only [ev_tmp, ev_const, fset_apply, Nat.reduceEqDiff, ↓reduceIte, decide_true, decide_false, f0, f3, f4, hlt, ff_21]; done)))
    (first | refine WK.retNil ⟨Or.inr rfl, _, rfl, ?_, ?_⟩ | refine WK.skipNil ⟨Or.inl rfl, _, rfl, ?_, ?_⟩)
    · exact k5.keep
    · simp only [packed, fset_apply, Nat.reduceEqDiff, ↓reduceIte, List.getD_cons_zero, List.getD_cons_succ, ff_21]
      exact ⟨some ⟨y, 0, none⟩, R, rfl, fun _ => ⟨y, 0, _, _, true, rfl, hy, fun i a e => by rw [Nat.zero_add, List.getElem?_map, e]; rfl⟩, hR, hRl⟩
end Go.Proofs.YtigijncdfkbaoaaGreatDoor
