/- A part of a proof. Its conditions: none. -/
import Derived.Test.YtigijncdfkbaoaaGreatDoorAmYDfFill
import Derived.Test.YtigijncdfkbaoaaGreatDoorAmD
import Derived.Test.YtigijncdfkbaoaaGreatDoorAmYAtInsB
import Derived.Test.YtigijncdfkbaoaaGreatDoorAmYLfNan
import Derived.Test.YtigijncdfkbaoaaGreatDoorAmE
import Derived.Test.YtigijncdfkbaoaaGreatDoorAmC
import Derived.Test.YtigijncdfkbaoaaGreatDoorAmYFacts
set_option linter.all false
namespace Go.Proofs.YtigijncdfkbaoaaGreatDoor
open Go.AM
set_option maxRecDepth 100000
def bq(pt pv pr:Option Addr)(g:Gram)(a b c d m:Value):List Value :=
 [.slice pt g.terms.length g.terms.length,.slice pv g.vars.length g.vars.length,.slice pr g.rules.length g.rules.length,a,b,c,d,.slice none 0 0,.slice none 0 0,.slice none 0 0,m]
section
variable (pt pv pr:Option Addr) (g:Gram) (a b c d m x:Value)
theorem bq0:AM.splice [Value.slice none 0 0,.slice none 0 0,.slice none 0 0,.pointer none,.int .i64 (Int.ofNat 0),.int .i64 (Int.ofNat 0),.int .i64 (Int.ofNat 0),.slice none 0 0,.slice none 0 0,.slice none 0 0,.map none] 0 (gcells pt pv pr g)=bq pt pv pr g (.pointer none) (.int .i64 0) (.int .i64 0) (.int .i64 0) (.map none):=rfl
theorem bq3:(bq pt pv pr g a b c d m).set 3 x=bq pt pv pr g x b c d m:=rfl
theorem bq4:(bq pt pv pr g a b c d m).set 4 x=bq pt pv pr g a x c d m:=rfl
theorem bq5:(bq pt pv pr g a b c d m).set 5 x=bq pt pv pr g a b x d m:=rfl
theorem bq6:(bq pt pv pr g a b c d m).set 6 x=bq pt pv pr g a b c x m:=rfl
theorem bq10:(bq pt pv pr g a b c d m).set 10 x=bq pt pv pr g a b c d x:=rfl
theorem bql:(bq pt pv pr g a b c d m).length=11:=rfl
theorem bqv:vcells (.agg (bq pt pv pr g a b c d m).toArray)=bq pt pv pr g a b c d m:=rfl
end
theorem vmap(x:Option Nat):vcells (.map x)=[.map x]:=rfl
theorem gc_one(pt pv pr:Option Addr)(g:Gram):(gcells pt pv pr g).all one=true:=rfl
theorem gc_vc(pt pv pr:Option Addr)(g:Gram):vcells (.agg (gcells pt pv pr g).toArray)=gcells pt pv pr g:=rfl
theorem bd7(pt pv pr:Option Addr)(g:Gram)(nn dp pl st mp:Nat)(a b c:Value):((bcv pt pv pr g nn dp pl st mp a b c).drop 7).take 2=[a,b]:=rfl
theorem BO.rd {pt pv pr : Option Addr} {g : Gram} {nn dp pl st NB bb mp xN xR xS : Nat} {H H' : Heap} {d : DS} (h : BO pt pv pr g nn dp pl st NB bb mp H d xN xR xS) (hk : ∀ z, NB ≤ z → H' z = H z) : RD H' (.agg [sl xN d.sets.length, sl xR d.sets.length].toArray) (d.rows.map (·.2)) d.rules := by
  have hb := h.bi
  have e1 : sl xN d.sets.length = .slice (slp xN d.sets.length) (d.rows.map (·.2)).length (d.rows.map (·.2)).length := by rw [List.length_map, hb.ln, sl_eq]
  have e2 : sl xR d.sets.length = .slice (slp xR d.sets.length) d.rules.length d.rules.length := by rw [hb.lr, sl_eq]
  refine ⟨slp xN d.sets.length, slp xR d.sets.length, by rw [e1, e2]; rfl, ⟨d.rows.map fun r => (some ⟨r.1, 0, none⟩, r.2), by rw [List.map_map]; rfl, fun hne => ?_, fun x hx => ?_⟩, fun hne => ?_⟩
  · have h0 : d.sets ≠ [] := by
      intro e
      have := hb.ln
      rw [e, List.length_nil] at this
      exact hne (by rw [List.eq_nil_of_length_eq_zero this]; rfl)
    have hk0 : d.sets.length ≠ 0 := fun e => h0 (List.eq_nil_of_length_eq_zero e)
    refine ⟨xN, 0, _, _, _, slp_pos hk0, (hk _ hb.ge.2.2.1).trans (hb.next h0), fun i y hy => ?_⟩
    rw [List.getElem?_map] at hy
    obtain ⟨r, hr, rfl⟩ := Option.map_eq_some_iff.1 hy
    rw [Nat.zero_add, List.getElem?_map, hr]
    have := (hb.row r (List.mem_of_getElem? hr)).2.1
    simp [rwC, enc2, this]
  · obtain ⟨r, hr, rfl⟩ := List.mem_map.1 hx
    exact fun _ => ⟨r.1, 0, _, _, _, rfl, (hk _ (hb.row r hr).2.2.1).trans (hb.row r hr).1, fun i y hy => by rw [Nat.zero_add, List.getElem?_map, hy]; rfl⟩
  · have h0 : d.sets ≠ [] := by
      intro e
      have := hb.lr
      rw [e, List.length_nil] at this
      exact hne (List.eq_nil_of_length_eq_zero this)
    have hk0 : d.sets.length ≠ 0 := fun e => h0 (List.eq_nil_of_length_eq_zero e)
    exact ⟨xR, 0, _, _, _, slp_pos hk0, (hk _ hb.ge.2.2.2.1).trans (hb.rule h0), fun i y hy => by rw [Nat.zero_add, List.getElem?_map, hy]; rfl⟩
structure Aut(g:Gram)(dp pl:Nat)(d:DS):Prop where
 ln:d.rows.length=d.sets.length
 lr:d.rules.length=d.sets.length
 rw:∀r∈d.rows,r.2.length=g.terms.length+1
 dn:∀k,Done g dp pl d k
 cp:d.sets.length≤256
 rz:∀(k:Nat) (r:Int) (row:Nat × List Int),d.rules[k]? = some r→d.rows[k]? = some row→Sml r∧(0≤r→∀x∈row.2,x = -1)
theorem pre_back{α:Type}{l m:List α}(h:l <+: m){k:Nat}{x:α}(hk:k<l.length)(e:m[k]? = some x):l[k]? = some x:=by
 rw[List.getElem?_eq_getElem hk,←pre_get h (List.getElem?_eq_getElem hk)]
 exact e
theorem Done.keep{g:Gram}{dp pl:Nat}{d d':DS}{k:Nat}(h:Done g dp pl d k)(hs:k<d.sets.length)(hr:k<d.rules.length)(hw:k<d.rows.length)(h1:d.sets <+: d'.sets)(h2:d.rules <+: d'.rules)(h3:d'.rows[k]? = d.rows[k]?):Done g dp pl d' k:=fun s row e1 e2 e3=>by
 obtain⟨a,b⟩:=h s row (pre_back h2 hr e1) (pre_back h1 hs e2) (h3.symm.trans e3)
 exact⟨fun t ht=>(a t ht).pre h1 h2,b.pre h1 h2⟩
theorem res_bd{f:Fr}{n:Nat}{H:Heap}{x:Nat}{cs:List Value}{ty:TypeId}{own:Bool}{t:Value}(hf:f 10=.pointer (some ⟨x,0,none⟩))(ht:f 11=t)(h:H x=.cells cs ty own)(hl:cs.length=2):aresultsL Tryz.prog ⟨f,n,H⟩ Tryz.f7.results.toList=some [.agg cs.toArray,t]:=by
 have e:Tryz.f7.results.toList=[.cell 10 31,.tmp 11]:=rfl
 have h1:aggT Tryz.prog 31=some true:=by kernel_rfl
 have h2:Tryz.prog.cellsOf 31=2:=by kernel_rfl
 have hL:aload Tryz.prog 31 H (.pointer (some ⟨x,0,none⟩))=some { v:=.agg cs.toArray,rd:=[x] }:=by
  unfold aload
  simp only[h,h1,h2]
  rw[if_pos (by omega),List.drop_zero,List.take_of_length_le (by omega)]
 rw[e]
 unfold aresultsL aresult
 simp only[hf,hL]
 unfold aresultsL aresult
 simp only[ht]
 rfl
set_option maxHeartbeats 16000000 in
theorem build_gives{w:Value}{g:Gram}{v:Int}{dp pl st n:Nat}{H:Heap}(hw:WF n H)(hg:RG H w g)(wg:WG g)(ok:RightOK g)(hrl:g.rules.length≤48)(hdp:dp≤16)(hpl:pl≤400)(hst:st≤256) :
  Gives Tryz.prog 7 [w,.int .i64 v,.int .i64 (dp:Nat),.int .i64 (pl:Nat),.int .i64 (st:Nat)] n H fun r _ H'=>∃(dv:Value) (b:Bool) (N:List (List Int)) (R:List Int),r=.tuple #[dv,.bool b]∧RD H' dv N R∧(∀l∈N,l.length≤65)∧(b=false→N=[]∧R=[])∧(b=true→0≤v∧v<g.vars.length∧∃(d:DS) (q:Int),N=d.rows.map (·.2)∧R=d.rules∧Aut g dp pl d∧Tr g dp pl d ((startL g v).map (·.1)) q∧(q = -1∨q=0)):=by
 have hg0:=hg
 obtain⟨pt,pv,pr,rfl,ht,hvs,hr⟩:=hg
 have g2:((gcells pt pv pr g).drop 0).take 3=gcells pt pv pr g:=rfl
 have g3:(gcells pt pv pr g).length=3:=rfl
 refine Gives.of orders ok7 (Nat.le_of_ble_eq_true rfl) ?_
 repeat refine qqn rfl ?_
 (refine qqr ?_;simp only[SS,qx19,vun,simprocAttr,-Int.reduceOfNat,-List.reduceReplicate,abox,box_cells,box_one,ff_7])
 have k1:=(Kp.new n H (.cells (gcells pt pv pr g) 25 true)).trans (Kp.new (n+1) _ (.cells [.slice none 0 0,.slice none 0 0] 31 true))
 have hG:(hset (hset H n (.cells (gcells pt pv pr g) 25 true)) (n+1) (.cells [.slice none 0 0,.slice none 0 0] 31 true)) n=_:=(hset_ne _ _ _ (by omega)).trans (hset_at _ _ _)
 have hD:=hset_at (hset H n (.cells (gcells pt pv pr g) 25 true)) (n+1) (.cells [.slice none 0 0,.slice none 0 0] 31 true)
 generalize (hset (hset H n (.cells (gcells pt pv pr g) 25 true)) (n+1) (.cells [.slice none 0 0,.slice none 0 0] 31 true))=H1 at *
 have hw1:=k1.wf hw
 repeat (first|refine qqm rfl ?_|((first|refine qqr ?_|refine qqt ?_);simp only[SS,qx19,vun,simprocAttr,-Int.reduceOfNat,-List.reduceReplicate,hG,g2,g3,ff_7]))
 refine AtCall.by (new_gives hw1 (hg0.mono hw k1) wg ok) ?_
 rintro _ n2 H2 k2 ⟨nn,ot,ov,or1,cc,cl,rfl,ne,hcl⟩
 have hw2:=k2.wf hw1
 have hle2:=k2.le
 have hm1:((16:Int)<(dp:Int))=False:=eq_false (by omega)
 have hm2:((256:Int)<(st:Int))=False:=eq_false (by omega)
 have hbo:(bq pt pv pr g (.pointer (some ⟨nn,0,none⟩)) (.int .i64 (dp:Nat)) (.int .i64 (pl:Nat)) (.int .i64 (st:Nat)) (.map (some n2))).all one=true:=rfl
 simp only[SS,qx19,vun,simprocAttr,-Int.reduceOfNat,-List.reduceReplicate,aop_min,tmm,Bool.false_eq_true,hm1,hm2,aop_makemap,amake,und_ms,bq0,bq3,bq4,bq5,bq6,bq10,bql,bqv,vmap,gc_one,gc_vc,g3,hbo,abox,List.length_singleton,List.all_cons,List.all_nil,ff_7]
 have kM:=(Kp.new n2 H2 (.map [] 0 9)).trans (Kp.new (n2+1) _ (.cells (bq pt pv pr g (.pointer (some ⟨nn,0,none⟩)) (.int .i64 (dp:Nat)) (.int .i64 (pl:Nat)) (.int .i64 (st:Nat)) (.map (some n2))) 50 true))
 have hmp:(hset (hset H2 n2 (.map [] 0 9)) (n2+1) (.cells (bq pt pv pr g (.pointer (some ⟨nn,0,none⟩)) (.int .i64 (dp:Nat)) (.int .i64 (pl:Nat)) (.int .i64 (st:Nat)) (.map (some n2))) 50 true)) n2=_:=(hset_ne _ _ _ (by omega)).trans (hset_at _ _ _)
 have hbx:=hset_at (hset H2 n2 (.map [] 0 9)) (n2+1) (.cells (bq pt pv pr g (.pointer (some ⟨nn,0,none⟩)) (.int .i64 (dp:Nat)) (.int .i64 (pl:Nat)) (.int .i64 (st:Nat)) (.map (some n2))) 50 true)
 generalize (hset (hset H2 n2 (.map [] 0 9)) (n2+1) (.cells (bq pt pv pr g (.pointer (some ⟨nn,0,none⟩)) (.int .i64 (dp:Nat)) (.int .i64 (pl:Nat)) (.int .i64 (st:Nat)) (.map (some n2))) 50 true))=H3 at *
 have hb3:BO pt pv pr g nn dp pl st n2 (n2+1) n2 H3 ⟨[],[],[],[]⟩ n2 n2 n2:=⟨hbx,⟨hmp,fun k hk=>(by cases hk),rfl,fun h=>absurd rfl h,fun h=>absurd rfl h,fun h=>absurd rfl h,⟨by omega,by omega,by omega,by omega,by omega⟩,rfl,rfl,rfl,fun r hr=>(by cases hr),List.nodup_nil,fun s hs=>(by cases hs)⟩,Nat.zero_le _,fun k r row e1 _=>by simp at e1⟩
 have hw3:=kM.wf hw2
 have k13:=k1.trans (k2.trans kM)
 have hG3:=((k2.trans kM).keep n (by omega)).trans hG
 have hD3:=((k2.trans kM).keep (n+1) (by omega)).trans hD
 refine WK.frame (fun f=>f 1=.int .i64 v∧f 5=.pointer (some ⟨n,0,none⟩)∧f 10=.pointer (some ⟨n+1,0,none⟩)∧f 11=.bool false∧f 12=.pointer (some ⟨n2+1,0,none⟩)) ⟨rfl,rfl,rfl,rfl,rfl⟩ ?_
 rintro f ⟨f1,f5,f10,f11,f12⟩
 have noRD:∀H',RD H' (.agg [Value.slice none 0 0,.slice none 0 0].toArray) [] []:=fun H'=>⟨none,none,rfl,R2.nil,fun h=>absurd rfl h⟩
 have spz:∀a b:Value,AM.splice [a,b] 0 [Value.slice none 0 0,.slice none 0 0]=[Value.slice none 0 0,.slice none 0 0]:=fun _ _=>rfl
 by_cases hv0:v<0
 ·have hv0':(v<0)=True:=eq_true hv0
  repeat (first|refine qqm rfl ?_|((first|refine qqr ?_|refine qqt ?_);simp only[SS,qx19,vun,simprocAttr,-Int.reduceOfNat,-List.reduceReplicate,f1,f5,f10,hv0',hD3,spz,decide_true,List.toList_toArray,ff_7]))
  refine WK.retNil ⟨Or.inr rfl,_,res_bd (x:=n+1) ?_ rfl (hset_at _ _ _) rfl,fun z hz=>?_,?_⟩
  ·exact f10
  ·exact(hset_ne _ _ _ (by omega)).trans (k13.keep z hz)
  ·exact⟨_,false,[],[],rfl,noRD _,fun l hl=>(by cases hl),fun _=>⟨rfl,rfl⟩,fun h=>by cases h⟩
 have hv0':(v<0)=False:=eq_false hv0
 by_cases hv1:(g.vars.length:Int)≤v
 ·have hv1':((g.vars.length:Int)≤v)=True:=eq_true hv1
  repeat (first|refine qqm rfl ?_|((first|refine qqr ?_|refine qqt ?_);simp only[SS,qx19,vun,simprocAttr,-Int.reduceOfNat,-List.reduceReplicate,f1,f5,f10,hv0',hv1',hG3,gc_1,hD3,spz,decide_true,decide_false,List.toList_toArray,ff_7]))
  refine WK.retNil ⟨Or.inr rfl,_,res_bd (x:=n+1) ?_ rfl (hset_at _ _ _) rfl,fun z hz=>?_,?_⟩
  ·exact f10
  ·exact(hset_ne _ _ _ (by omega)).trans (k13.keep z hz)
  ·exact⟨_,false,[],[],rfl,noRD _,fun l hl=>(by cases hl),fun _=>⟨rfl,rfl⟩,fun h=>by cases h⟩
 have hv1':((g.vars.length:Int)≤v)=False:=eq_false hv1
 have ne3:=ne.mono hw2 kM
 have hbx':H3 (n2+1)=.cells (bcv pt pv pr g nn dp pl st n2 (.slice none 0 0) (.slice none 0 0) (.slice none 0 0)) 50 true:=hbx
 repeat (first|refine qqm rfl ?_|((first|refine qqr ?_|refine qqt ?_);simp only[SS,qx19,vun,simprocAttr,-Int.reduceOfNat,-List.reduceReplicate,f1,f5,f12,hv0',hv1',hG3,gc_1,hbx',bv3,bvl,aop_nc,tnc,decide_false,ff_7]))
 refine AtCall.by (start_gives hw3 ne3 ok) ?_
 rintro _ n4 H4 k4 ⟨p4,rfl,hp4⟩
 have hw4:=k4.wf hw3
 have hle4:=k4.le
 have s1:=startL_mem g v
 have s2:=startL_len g v
 have s3:=startL_map ok v
 have hLI:LI g H4 (p4,startL g v):=⟨hp4,fun z hz=>⟨.inl ⟨(s1 z hz).1,(s1 z hz).2.1⟩,fun z' k e=>by rw[(s1 z hz).1]at e;cases e⟩,fun z hz=>(s1 z hz).2.2,fun z hz=>?_,by show(startL g v).length≤65536;omega,fun z hz=>by rw[(s1 z hz).2.1];exact Nat.zero_le _,fun z hz=>?_⟩
 rotate_left
 ·have hz':z.1∈(startL g v).map (·.1):=List.mem_map.2 ⟨z,hz,rfl⟩
  rw[s3]at hz'
  obtain⟨q,hq,e⟩:=List.mem_map.1 hz'
  unfold ruleIx at hq
  have hr1:=List.mem_range.1 (List.mem_filter.1 hq).1
  rw[←e]
  exact⟨by show(0:Int)≤(q:Int);omega,by show(q:Int)<48;omega⟩
 ·have hz':z.1∈(startL g v).map (·.1):=List.mem_map.2 ⟨z,hz,rfl⟩
  rw[s3]at hz'
  obtain⟨q,hq,e⟩:=List.mem_map.1 hz'
  rw[←e]
  exact fun hn=>absurd hn (by show ¬(q:Int)<0;omega)
 have hb4:=hb3.kp hw3 k4
 have ne4:=ne3.mono hw3 k4
 have kB4:=kM.trans k4
 simp only[SS,qx19,vun,simprocAttr,-Int.reduceOfNat,-List.reduceReplicate,ff_7]
 refine AtCall.byX (dstate_gives hw4 hb4 ne4 ok hst hpl (by omega) hLI hrl (by omega) hcl) ?_
 rintro _ n5 H5 k5 ⟨b,q,d5,rfl,⟨zN,zR,zS,hb5,q1,q2,q3⟩,hl5,hTr⟩
 have hle5:=k5.le
 have kB5:=kpOn kB4 k5
 have k05:Kp n H n5 H5:=⟨by omega,fun z hz=>(kB5.keep z (by omega)).trans ((k1.trans k2).keep z hz),fun h=>kB5.wf ((k1.trans k2).wf h)⟩
 have hD5:=(kB5.keep (n+1) (by omega)).trans ((k2.keep (n+1) (by omega)).trans hD)
 simp only[SS,qx19,vun,simprocAttr,-Int.reduceOfNat,-List.reduceReplicate,List.toList_toArray,ff_7]
 cases b with
 | false =>
  repeat (first|refine qqm rfl ?_|((first|refine qqr ?_|refine qqt ?_);simp only[SS,qx19,vun,simprocAttr,-Int.reduceOfNat,-List.reduceReplicate,f10,hD5,spz,List.toList_toArray,ff_7]))
  refine WK.retNil ⟨Or.inr rfl,_,res_bd (x:=n+1) ?_ rfl (hset_at _ _ _) rfl,fun z hz=>?_,?_⟩
  ·exact f10
  ·exact(hset_ne _ _ _ (by omega)).trans (k05.keep z hz)
  ·exact⟨_,false,[],[],rfl,noRD _,fun l hl=>(by cases hl),fun _=>⟨rfl,rfl⟩,fun h=>by cases h⟩
 | true =>
  have hT:=hTr rfl
  have hq:q = -1∨q=0:=by
   obtain⟨C,_,R,_,⟨_,e⟩|⟨a,k,_,_,e,_,s,hs,_⟩|⟨_,k,e,_,s,hs,_⟩⟩:=hT
   ·exact .inl e
   ·have:=(List.getElem?_eq_some_iff.1 hs).1
    simp at hl5
    right;omega
   ·have:=(List.getElem?_eq_some_iff.1 hs).1
    simp at hl5
    right;omega
  repeat (first|refine qqm rfl ?_|((first|refine qqr ?_|refine qqt ?_);simp only[SS,qx19,vun,simprocAttr,-Int.reduceOfNat,-List.reduceReplicate,ff_7]))
  clear hb4 ne4 kB4 hp4 hLI k4 hw4 k05 hD5 hb3 ne3 hbx' hbx hmp kM hw3 k13 hG3 hD3 f1 f5 f11 q1 q2 q3 hTr
  refine WK.loop (fun kk s'=>∃(s:Nat) (d:DS) (yN yR yS:Nat),Kp n2 H2 s'.n s'.H∧BO pt pv pr g nn dp pl st n2 (n2+1) n2 s'.H d yN yR yS∧s≤d.sets.length∧d5.sets <+: d.sets∧d5.rules <+: d.rules∧(∀k,k<s→Done g dp pl d k)∧s'.f 10=.pointer (some ⟨n+1,0,none⟩)∧s'.f 12=.pointer (some ⟨n2+1,0,none⟩)∧s'.f 15=.int .i64 (s:Nat)∧kk=st - s) st ?_ ?_
  ·exact⟨0,d5,zN,zR,zS,kB5,hb5,Nat.zero_le _,List.prefix_rfl,List.prefix_rfl,fun k hk=>absurd hk (Nat.not_lt_zero _),f10,f12,rfl,rfl⟩
  clear f10 f12 kB5 hb5 k5 f
  rintro kk ⟨f,n6,H6⟩ ⟨s,d,yN,yR,yS,kB6,hb6,hsl,o1,o2,hdn,f10,f12,f15,rfl⟩ ih
  simp only at kB6 hb6 f10 f12 f15 ih
  have hw6:=kB6.wf hw2
  have hle6:=kB6.le
  have hcap:=hb6.cap
  have hobj:=hb6.obj
  have k06:Kp n H n6 H6:=⟨by omega,fun z hz=>(kB6.keep z (by omega)).trans ((k1.trans k2).keep z hz),fun h=>kB6.wf ((k1.trans k2).wf h)⟩
  have hD6:=(kB6.keep (n+1) (by omega)).trans ((k2.keep (n+1) (by omega)).trans hD)
  obtain⟨aS,haS⟩:∃a,sl yS d.sets.length=.slice a d.sets.length d.sets.length:=⟨_,sl_eq _ _⟩
  have spd:∀a b c e:Value,AM.splice [a,b] 0 [c,e]=[c,e]:=fun _ _ _ _=>rfl
  by_cases hs:s<d.sets.length
  case neg =>
   have hs':((s:Int)<(d.sets.length:Int))=False:=eq_false (by omega)
   have haN:=sl_eq yN d.sets.length
   have haR:=sl_eq yR d.sets.length
   have hrd:=hb6.rd (H':=hset H6 (n+1) (.cells [.slice (slp yN d.sets.length) d.sets.length d.sets.length,.slice (slp yR d.sets.length) d.sets.length d.sets.length] 31 true)) fun z hz=>hset_ne _ _ _ (by omega)
   rw[haN,haR]at hrd
   repeat (first|refine qqm rfl ?_|((first|refine qqr ?_|refine qqt ?_);simp only[SS,qx19,vun,simprocAttr,-Int.reduceOfNat,-List.reduceReplicate,f10,f12,f15,hobj,bv9,bvl,bd7,haS,haN,haR,hs',hD6,spd,aop_nc,tnc,List.toList_toArray,ff_7]))
   refine WK.retNil ⟨Or.inr rfl,_,res_bd (x:=n+1) ?_ rfl (hset_at _ _ _) rfl,fun z hz=>?_,?_⟩
   ·exact f10
   ·exact(hset_ne _ _ _ (by omega)).trans (k06.keep z hz)
   ·refine⟨_,true,_,_,rfl,hrd,fun l hl=>?_,fun h=>(by cases h),fun _=>⟨by omega,by omega,d,q,rfl,rfl,⟨hb6.bi.ln,hb6.bi.lr,fun r hr=>(hb6.bi.row r hr).2.1,fun k=>?_,by omega,hb6.rz⟩,hT.pre o1 o2,hq⟩⟩
    rotate_left
    ·by_cases hk:k<s
     ·exact hdn k hk
     ·intro s0 row _ e2 _
      have:=(List.getElem?_eq_some_iff.1 e2).1
      omega
    obtain⟨r,hr,rfl⟩:=List.mem_map.1 hl
    have:=(hb6.bi.row r hr).2.1
    have:=ok.terms
    omega
  have hs':((s:Int)<(d.sets.length:Int))=True:=eq_true (by omega)
  have hsw:IntKind.i64.wrap ((s:Int)+1)=((s+1:Nat):Int):=by rw[wrap_in (by omega) (by omega)];rfl
  repeat (first|refine qqm rfl ?_|((first|refine qqr ?_|refine qqt ?_);simp only[SS,qx19,vun,simprocAttr,-Int.reduceOfNat,-List.reduceReplicate,f12,f15,hobj,bv9,bvl,haS,hs',aop_nc,tnc,ff_7]))
  refine AtCall.byX (dfill_gives hw6 hw2 kB6 ne hb6 ok hst hpl (by omega) hrl hs hcl) ?_
  rintro _ n7 H7 k7 ⟨b,d7,rfl,⟨uN,uR,uS,hb7,q1,q2⟩,hRK,hDn⟩
  have kB7:=kpOn kB6 k7
  have hle7:=k7.le
  cases b with
  | false =>
   have k07:Kp n H n7 H7:=⟨by omega,fun z hz=>(kB7.keep z (by omega)).trans ((k1.trans k2).keep z hz),fun h=>kB7.wf ((k1.trans k2).wf h)⟩
   have hD7:=(kB7.keep (n+1) (by omega)).trans ((k2.keep (n+1) (by omega)).trans hD)
   simp only[SS,qx19,vun,simprocAttr,-Int.reduceOfNat,-List.reduceReplicate,Bool.not_false,ff_7]
   repeat (first|refine qqm rfl ?_|((first|refine qqr ?_|refine qqt ?_);simp only[SS,qx19,vun,simprocAttr,-Int.reduceOfNat,-List.reduceReplicate,f10,hD7,spz,List.toList_toArray,ff_7]))
   refine WK.retNil ⟨Or.inr rfl,_,res_bd (x:=n+1) ?_ rfl (hset_at _ _ _) rfl,fun z hz=>?_,?_⟩
   ·exact f10
   ·exact(hset_ne _ _ _ (by omega)).trans (k07.keep z hz)
   ·exact⟨_,false,[],[],rfl,noRD _,fun l hl=>(by cases hl),fun _=>⟨rfl,rfl⟩,fun h=>by cases h⟩
  | true =>
   simp only[SS,qx19,vun,simprocAttr,-Int.reduceOfNat,-List.reduceReplicate,Bool.not_true,ff_7]
   repeat (first|refine qqm rfl ?_|((first|refine qqr ?_|refine qqt ?_);simp only[SS,qx19,vun,simprocAttr,-Int.reduceOfNat,-List.reduceReplicate,f15,hsw,ff_7]))
   refine ih (st - (s+1)) (by omega) _ ?_
   refine⟨s+1,d7,uN,uR,uS,kB7,hb7,Nat.le_trans hs q1.length_le,o1.trans q1,o2.trans q2,fun k hk=>?_,f10,f12,rfl,rfl⟩
   by_cases e:k=s
   ·rw[e];exact hDn rfl
   ·have l1:=hb6.bi.ln
    have l2:=hb6.bi.lr
    exact(hdn k (by omega)).keep (by omega) (by omega) (by omega) q1 q2 (hRK k e (by omega))
end Go.Proofs.YtigijncdfkbaoaaGreatDoor

namespace Go.Proofs.YtigijncdfkbaoaaGreatDoor
open Go.AM
set_option maxRecDepth 100000
def decS:List Value→Option (List (Int × Int))
 | []=>some []
 | .int .i64 a::.int .i64 b::l=>match decS l with
  | some s=>some ((a,b)::s)
  | none=>none
 | _=>none
theorem decS_spec:∀{l:List Value} {s:List (Int × Int)},decS l=some s→l=s.flatMap spC:=by
 intro l
 induction l using decS.induct with
 | case1=>intro s h;cases h;rfl
 | case2 a b l s' hs ih =>
  intro s h
  unfold decS at h
  rw[hs]at h
  cases h
  rw[List.flatMap_cons,←ih hs]
  rfl
 | case3 a b l hs =>
  intro s h
  unfold decS at h
  rw[hs]at h
  cases h
 | case4 l h1 h2 =>
  intro s h
  unfold decS at h
  split at h
  ·exact absurd rfl h1
  ·exact absurd rfl (h2 _ _ _)
  ·cases h
def decO(a r d:Int)(x k l n:Nat):AObj→Option (Cfg × Option Addr)
 | .cells cs _ _=>match Nat.ble (k+l*2) cs.length && Nat.ble (x+1) n with
  | true=>match decS ((cs.drop k).take (l*2))with
   | some st=>match Nat.beq st.length l && Nat.ble l 65536 with
    | true=>some (⟨a,r,d,st⟩,some ⟨x,k,none⟩)
    | false=>none
   | none=>none
  | false=>none
 | _=>none
def decC(get:Nat→AObj)(n:Nat):Value→Option (Cfg × Option Addr)
 | .agg ⟨[.int .i64 a,.int .i64 r,.int .i64 d,.slice none 0 0]⟩=>some (⟨a,r,d,[]⟩,none)
 | .agg ⟨[.int .i64 a,.int .i64 r,.int .i64 d,.slice (some ⟨x,k,none⟩) l l']⟩=>match Nat.beq l l' with
  | true=>decO a r d x k l n (get x)
  | false=>none
 | _=>none
def StIn(n:Nat)(H:Heap)(x:Cfg × Option Addr):Prop:=x.1.stack.length≤65536∧((x.2=none∧x.1.stack=[])∨∃z k cs ty own,z<n∧x.2=some ⟨z,k,none⟩∧H z=.cells cs ty own∧k+x.1.stack.length*2≤cs.length∧(cs.drop k).take (x.1.stack.length*2)=x.1.stack.flatMap spC)
theorem decO_spec{a r d:Int}{x k l n:Nat}{H:Heap}{q:Cfg × Option Addr}(h:decO a r d x k l n (H x)=some q):ccell q=[.int .i64 a,.int .i64 r,.int .i64 d,.slice (some ⟨x,k,none⟩) l l]∧StIn n H q:=by
 unfold decO at h
 split at h
 case h_2=>cases h
 rename_i cs ty own hx
 split at h
 case h_2=>cases h
 rename_i hc
 split at h
 case h_2=>cases h
 rename_i st hst
 split at h
 case h_2=>cases h
 rename_i hl
 cases h
 rw[Bool.and_eq_true]at hc hl
 have hl1:=Nat.eq_of_beq_eq_true hl.1
 subst hl1
 exact⟨rfl,Nat.le_of_ble_eq_true hl.2,.inr ⟨x,k,cs,ty,own,Nat.le_of_ble_eq_true hc.2,rfl,hx,Nat.le_of_ble_eq_true hc.1,decS_spec hst⟩⟩
theorem decC_spec{n:Nat}{H:Heap}{v:Value}{q:Cfg × Option Addr}(h:decC H n v=some q):v=.agg (ccell q).toArray∧StIn n H q:=by
 unfold decC at h
 split at h
 ·cases h
  exact⟨rfl,Nat.zero_le _,.inl ⟨rfl,rfl⟩⟩
 ·split at h
  case h_2=>cases h
  rename_i hl
  have hl:=Nat.eq_of_beq_eq_true hl
  subst hl
  obtain⟨h1,h2⟩:=decO_spec h
  exact⟨by rw[h1],h2⟩
 ·cases h
theorem cmp_bs{x y:Cfg × Option Addr}{n:Nat}{H:Heap}(ha:StIn n H x)(hb:StIn n H y) :
  BS Tryz.prog (.call 75 [.agg (ccell x).toArray,.agg (ccell y).toArray] n H) (.ret (.int .i64 (cmpC x.1 y.1)) n H):=by
 have hw:WF n (fun z=>if z<n then frz H z else .dead):=fun z hz=>by simp only;rw[if_neg (by omega)]
 have hst:∀{q:Cfg × Option Addr},StIn n H q→StOK (fun z=>if z<n then frz H z else .dead) q:=fun{q} h=>by
  rcases h.2 with h|⟨z,k,cs,ty,own,h1,h2,h3,h4,h5⟩
  ·exact .inl h
  ·exact .inr ⟨z,k,cs,ty,false,h2,by simp only;rw[if_pos h1];exact frz_cells h3,h4,h5⟩
 refine .sem (H0:=fun z=>if z<n then frz H z else .dead) (sem_of orders hw rfl ⟨_,_,ok75⟩ fun m hm=>?_) rfl fun z hz=>?_
 ·have hwm:WF m (fun z=>if z<n then frz H z else .dead):=fun z hz=>hw z (by omega)
  refine(cmpC_gives hwm (hst ha) (hst hb) (by have:=ha.1;unfold maxL;omega)).d.ret.mono fun o ⟨ho,v',n',H',e⟩=>?_
  subst e
  exact⟨n',H',by rw[ho.2]⟩
 ·split at hz
  ·rename_i h1
   obtain⟨cs,ty,own,h2,h3⟩:=frz_inv hz
   exact⟨h1,cs,ty,own,(if_pos h1).trans h3,h2⟩
  ·exact absurd rfl hz
def cmpF:CF:=fun _ g args n H=>match Nat.beq g 75 with
 | true=>match args with
  | [a,b]=>match decC H n a,decC H n b with
   | some x,some y=>some (.int .i64 (cmpC x.1 y.1),n,H)
   | _,_=>none
  | _=>none
 | false=>none
noncomputable def cmpT:CFT:=fun _ g args n H=>match Nat.beq g 75 with
 | true=>match args with
  | [a,b]=>match decC (H.get .dead) n a,decC (H.get .dead) n b with
   | some x,some y=>some (.int .i64 (cmpC x.1 y.1),n,H)
   | _,_=>none
  | _=>none
 | false=>none
theorem cmpF_ok:CfOK Tryz.prog cmpF:=by
 intro fl g args n H v n' H' e
 unfold cmpF at e
 split at e
 case h_2=>cases e
 rename_i hg
 have hg:=Nat.eq_of_beq_eq_true hg
 subst hg
 split at e
 case h_2=>cases e
 split at e
 case h_2=>cases e
 rename_i x y hx hy
 cases e
 obtain⟨rfl,h1⟩:=decC_spec hx
 obtain⟨rfl,h2⟩:=decC_spec hy
 exact⟨cmp_bs h1 h2,fun _ _ _=>rfl⟩
theorem cmp_alike:AlikeT cmpT cmpF:=by
 have key:∀fl g args n (H:Trie AObj),cmpF fl g args n (H.get .dead)=(cmpT fl g args n H).map fun r=>(r.1,r.2.1,r.2.2.get .dead):=by
  intro fl g args n H
  unfold cmpT cmpF
  split
  ·split
   ·split
    ·rfl
    ·rfl
   ·rfl
  ·rfl
 constructor
 ·intro fl g args n H v n' H' h
  rw[key,h];rfl
 ·intro fl g args n H h
  rw[key,h];rfl
def orF(a b:CF):CF:=fun fl g args n H=>match a fl g args n H with
 | some r=>some r
 | none=>b fl g args n H
noncomputable def orT(a b:CFT):CFT:=fun fl g args n H=>match a fl g args n H with
 | some r=>some r
 | none=>b fl g args n H
theorem orF_ok{P:Program}{a b:CF}(ha:CfOK P a)(hb:CfOK P b):CfOK P (orF a b):=by
 intro fl g args n H v n' H' e
 unfold orF at e
 split at e
 ·rename_i r hr
  cases e
  exact ha _ _ _ _ _ _ _ _ hr
 ·exact hb _ _ _ _ _ _ _ _ e
theorem or_alike{a b:CF}{aT bT:CFT}(ha:AlikeT aT a)(hb:AlikeT bT b):AlikeT (orT aT bT) (orF a b):=by
 constructor
 ·intro fl g args n H v n' H' h
  unfold orT at h
  unfold orF
  split at h
  ·rename_i r hr
   cases h
   rw[ha.1 _ _ _ _ _ _ _ _ hr]
  ·rename_i hr
   rw[ha.2 _ _ _ _ _ hr]
   exact hb.1 _ _ _ _ _ _ _ _ h
 ·intro fl g args n H h
  unfold orT at h
  unfold orF
  split at h
  ·cases h
  ·rename_i hr
   rw[ha.2 _ _ _ _ _ hr]
   exact hb.2 _ _ _ _ _ h
end Go.Proofs.YtigijncdfkbaoaaGreatDoor

namespace Go.Proofs.YtigijncdfkbaoaaGreatDoor
open Go.AM
set_option maxRecDepth 100000
theorem alive_ev:(evCallPT Tryz.prog (fun g=>fns.contains g) (orT cmpT (insT 76 99 4)) 20000 0 5 [] (ngl Tryz.prog) (.bare 14 0)).map (·.1)=some (.bool true):=by kernel_rfl
theorem alive_gives(n:Nat)(H:Heap):Gives Tryz.prog 5 [] n H fun v n' H'=>v=.bool true∧n'=n∧H'=H:=by
 have h:=alive_ev
 cases he:evCallPT Tryz.prog (fun g=>fns.contains g) (orT cmpT (insT 76 99 4)) 20000 0 5 [] (ngl Tryz.prog) (.bare 14 0)with
 | none=>rw[he]at h;cases h
 | some r =>
  obtain⟨v,n1,H1⟩:=r
  rw[he]at h
  simp only[Option.map_some,Option.some.injEq]at h
  subst h
  obtain⟨h1,_⟩:=evCallP_sound orders (fnOK_of fns_ok) (orF_ok cmpF_ok (insF_ok fun a b c d e f g h=>ins_bs a b c d e f g h)) 20000 _ _ _ _ _ _ _ _ (evCallPT_sound (or_alike cmp_alike (ins_alike _ _ _)) he)
  exact⟨.bool true,n,H,.closed h1 (fun _ _=>rfl) (fun x hx=>absurd rfl hx),Kp.refl n H,rfl,rfl,rfl⟩
end Go.Proofs.YtigijncdfkbaoaaGreatDoor

namespace Go.Proofs.YtigijncdfkbaoaaGreatDoor
open Go.AM
set_option maxRecDepth 100000
def few(g:Gram):Bool:=decide (g.vars.length≤8) && decide (g.terms.length≤6) && decide (g.rules.length≤24) && g.rules.all fun r=>decide (r.right.length≤8)
theorem few_gives{v:Value}{g:Gram}{n:Nat}{H:Heap}(hw:WF n H)(hg:RG H v g)(wg:WG g) :
  Gives Tryz.prog 12 [v] n H fun v _ _=>v=.bool (few g):=by
 obtain⟨pt,pv,pr,rfl,ht,hv,hr⟩:=hg
 refine Gives.of orders ok12 (Nat.le_of_ble_eq_true rfl) ?_
 have hk:=Kp.new n H (.cells (gcells pt pv pr g) 25 true)
 replace hr:=hr.mono hw hk
 have hb:=hset_at H n (.cells (gcells pt pv pr g) 25 true)
 repeat refine qqn rfl ?_
 (refine qqr ?_;simp only[SS,qx0,simprocAttr,abox,box_cells,box_one,ff_12])
 repeat refine qqn rfl ?_
 generalize hset H n (.cells (gcells pt pv pr g) 25 true)=H1 at *
 by_cases h1:(8:Int)<g.vars.length
 ·repeat (first|refine qqm rfl ?_|((first|refine qqr ?_|refine qqt ?_);simp only[SS,qx0,simprocAttr,hb,h1,gc_1,ff_12]))
  first|refine qqf ?_ ?_|refine qqg ?_ ?_
  ·exact hk.keep
  ·simp only[packed,qv,Nat.reduceEqDiff,↓reduceIte,few,ff_12]
   simp;omega
 by_cases h2:(6:Int)<g.terms.length
 ·repeat (first|refine qqm rfl ?_|((first|refine qqr ?_|refine qqt ?_);simp only[SS,qx0,simprocAttr,hb,h1,h2,gc_1,gc_0,ff_12]))
  first|refine qqf ?_ ?_|refine qqg ?_ ?_
  ·exact hk.keep
  ·simp only[packed,qv,Nat.reduceEqDiff,↓reduceIte,few,ff_12]
   simp;omega
 by_cases h3:(24:Int)<g.rules.length
 ·repeat (first|refine qqm rfl ?_|((first|refine qqr ?_|refine qqt ?_);simp only[SS,qx0,simprocAttr,hb,h1,h2,h3,gc_1,gc_0,gc_2,ff_12]))
  first|refine qqf ?_ ?_|refine qqg ?_ ?_
  ·exact hk.keep
  ·simp only[packed,qv,Nat.reduceEqDiff,↓reduceIte,few,ff_12]
   simp;omega
 repeat (first|refine qqm rfl ?_|((first|refine qqr ?_|refine qqt ?_);simp only[SS,qx0,simprocAttr,hb,h1,h2,h3,gc_1,gc_0,gc_2,ff_12]))
 refine WK.loop (fun k s=>∃i,s.n=n+1∧s.H=H1∧s.f 1=.pointer (some ⟨n,0,none⟩)∧s.f 3=.int .i64 (i:Nat)∧i≤g.rules.length∧k=g.rules.length - i∧∀r∈g.rules.take i,r.right.length≤8) g.rules.length ?_ ?_
 ·exact⟨0,rfl,rfl,rfl,rfl,Nat.zero_le _,rfl,by simp⟩
 rintro k ⟨f,n',H'⟩ ⟨i,rfl,rfl,f1,f3,hi,rfl,hall⟩ ih
 simp only at f1 f3 ih hr hb
 by_cases hir:i<g.rules.length
 ·obtain⟨x,k,cs,ty,own,p,rfl,hx,c0,c1,c2,hp⟩:=hr.at hir
  by_cases h8:(8:Int)<g.rules[i].right.length
  ·repeat (first|refine qqm rfl ?_|((first|refine qqr ?_|refine qqt ?_);simp only[SS,qx0,simprocAttr,f1,f3,hb,gc_2,hir,hx,c1,h8,ff_12]))
   first|refine qqf ?_ ?_|refine qqg ?_ ?_
   ·exact hk.keep
   ·simp only[packed,qv,Nat.reduceEqDiff,↓reduceIte,few,ff_12]
    have:g.rules.all (fun r=>decide (r.right.length≤8))=false:=by
     rw[List.all_eq_false];exact⟨g.rules[i],List.getElem_mem hir,by simp;omega⟩
    rw[this];simp
  ·repeat (first|refine qqm rfl ?_|((first|refine qqr ?_|refine qqt ?_);simp only[SS,qx0,simprocAttr,f1,f3,hb,gc_2,hir,hx,c1,h8,ff_12]))
   refine ih (g.rules.length - (i+1)) (by omega) _ ⟨i+1,rfl,rfl,f1,?_,hir,rfl,?_⟩
   ·simp only[packed,qv,Nat.reduceEqDiff,↓reduceIte,ff_12]
    have:=wg.rules;unfold maxL at this
    rw[wrap_in (by omega) (by omega)];rfl
   ·intro r hr'
    rw[List.take_succ_eq_append_getElem hir,List.mem_append]at hr'
    rcases hr' with hr'|hr'
    ·exact hall r hr'
    ·simp at hr';subst hr';omega
 ·repeat (first|refine qqm rfl ?_|((first|refine qqr ?_|refine qqt ?_);simp only[SS,qx0,simprocAttr,f1,f3,hb,gc_2,hir,ff_12]))
  first|refine qqf ?_ ?_|refine qqg ?_ ?_
  ·exact hk.keep
  ·simp only[packed,qv,Nat.reduceEqDiff,↓reduceIte,few,ff_12]
   rw[List.take_of_length_le (by omega)]at hall
   have:g.rules.all (fun r=>decide (r.right.length≤8))=true:=by
    rw[List.all_eq_true];exact fun r hr=>by simpa using hall r hr
   rw[this];simp;omega
end Go.Proofs.YtigijncdfkbaoaaGreatDoor

namespace Go.Proofs.YtigijncdfkbaoaaGreatDoor
open Go.AM
set_option maxRecDepth 100000
def kpB(us ws:List Bool)(r:GRule):Bool:=us.getD r.left.toNat false && prdB r.right ws
end Go.Proofs.YtigijncdfkbaoaaGreatDoor
