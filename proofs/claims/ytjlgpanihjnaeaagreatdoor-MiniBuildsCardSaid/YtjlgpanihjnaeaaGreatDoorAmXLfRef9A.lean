/- A part of a proof. Its conditions: none. -/
import Derived.Test.YtjlgpanihjnaeaaGreatDoorAmXDfFill
import Derived.Test.YtjlgpanihjnaeaaGreatDoorAmD
import Derived.Test.YtjlgpanihjnaeaaGreatDoorAmXFacts
import Derived.Test.YtjlgpanihjnaeaaGreatDoorAmC
import Derived.Test.YtjlgpanihjnaeaaGreatDoorAmXLfRight
import Derived.Test.YtjlgpanihjnaeaaGreatDoorAmXAtStep
set_option linter.all false
namespace Go.Proofs.YtjlgpanihjnaeaaGreatDoor
open Go.AM
set_option maxRecDepth 100000
def bq(pt pv pr:Option Addr)(g:Gram)(a b c d m:Value):List Value :=
 [.slice pt g.terms.length g.terms.length,.slice pv g.vars.length g.vars.length,.slice pr g.rules.length g.rules.length,a,b,c,d,.slice none 0 0,.slice none 0 0,.slice none 0 0,m]
section
variable (pt pv pr:Option Addr) (g:Gram) (a b c d m x:Value)
theorem bq0:AM.splice [Value.slice none 0 0,.slice none 0 0,.slice none 0 0,.pointer none,.int .i64 (Int.ofNat 0),.int .i64 (Int.ofNat 0),.int .i64 (Int.ofNat 0),.slice none 0 0,.slice none 0 0,.slice none 0 0,.map none] 0 (gcells pt pv pr g)=bq pt pv pr g (.pointer none) (.int .i64 0) (.int .i64 0) (.int .i64 0) (.map none):=rfl
theorem bq3:(bq pt pv pr g a b c d m).set 3 x=bq pt pv pr g x b c d m:=rfl
theorem bq4:(bq pt pv pr g a b c d m).set 4 x=bq pt pv pr g a x c d m:=rfl
theorem bq5:(bq pt pv pr g a b c d m).set 5 x=bq pt pv pr g a b x d m:=rfl
theorem bq6:(bq pt pv pr g a b c d m).set 6 x=bq pt pv pr g a b c x m:=rfl
theorem bq10:(bq pt pv pr g a b c d m).set 10 x=bq pt pv pr g a b c d x:=rfl
theorem bql:(bq pt pv pr g a b c d m).length=11:=rfl
theorem bqv:vcells (.agg (bq pt pv pr g a b c d m).toArray)=bq pt pv pr g a b c d m:=rfl
end
theorem vmap(x:Option Nat):vcells (.map x)=[.map x]:=rfl
theorem gc_one(pt pv pr:Option Addr)(g:Gram):(gcells pt pv pr g).all one=true:=rfl
theorem gc_vc(pt pv pr:Option Addr)(g:Gram):vcells (.agg (gcells pt pv pr g).toArray)=gcells pt pv pr g:=rfl
theorem bd7(pt pv pr:Option Addr)(g:Gram)(nn dp pl st mp:Nat)(a b c:Value):((bcv pt pv pr g nn dp pl st mp a b c).drop 7).take 2=[a,b]:=rfl
theorem BO.rd {pt pv pr : Option Addr} {g : Gram} {nn dp pl st NB bb mp xN xR xS : Nat} {H H' : Heap} {d : DS} (h : BO pt pv pr g nn dp pl st NB bb mp H d xN xR xS) (hk : ∀ z, NB ≤ z → H' z = H z) : RD H' (.agg [sl xN d.sets.length, sl xR d.sets.length].toArray) (d.rows.map (·.2)) d.rules := by
  have hb := h.bi
  have e1 : sl xN d.sets.length = .slice (slp xN d.sets.length) (d.rows.map (·.2)).length (d.rows.map (·.2)).length := by rw [List.length_map, hb.ln, sl_eq]
  have e2 : sl xR d.sets.length = .slice (slp xR d.sets.length) d.rules.length d.rules.length := by rw [hb.lr, sl_eq]
  refine ⟨slp xN d.sets.length, slp xR d.sets.length, by rw [e1, e2]; rfl, ⟨d.rows.map fun r => (some ⟨r.1, 0, none⟩, r.2), by rw [List.map_map]; rfl, fun hne => ?_, fun x hx => ?_⟩, fun hne => ?_⟩
  · have h0 : d.sets ≠ [] := by
      intro e
      have := hb.ln
      rw [e, List.length_nil] at this
      exact hne (by rw [List.eq_nil_of_length_eq_zero this]; rfl)
    have hk0 : d.sets.length ≠ 0 := fun e => h0 (List.eq_nil_of_length_eq_zero e)
    refine ⟨xN, 0, _, _, _, slp_pos hk0, (hk _ hb.ge.2.2.1).trans (hb.next h0), fun i y hy => ?_⟩
    rw [List.getElem?_map] at hy
    obtain ⟨r, hr, rfl⟩ := Option.map_eq_some_iff.1 hy
    rw [Nat.zero_add, List.getElem?_map, hr]
    have := (hb.row r (List.mem_of_getElem? hr)).2.1
    simp [rwC, enc2, this]
  · obtain ⟨r, hr, rfl⟩ := List.mem_map.1 hx
    exact fun _ => ⟨r.1, 0, _, _, _, rfl, (hk _ (hb.row r hr).2.2.1).trans (hb.row r hr).1, fun i y hy => by rw [Nat.zero_add, List.getElem?_map, hy]; rfl⟩
  · have h0 : d.sets ≠ [] := by
      intro e
      have := hb.lr
      rw [e, List.length_nil] at this
      exact hne (List.eq_nil_of_length_eq_zero this)
    have hk0 : d.sets.length ≠ 0 := fun e => h0 (List.eq_nil_of_length_eq_zero e)
    exact ⟨xR, 0, _, _, _, slp_pos hk0, (hk _ hb.ge.2.2.2.1).trans (hb.rule h0), fun i y hy => by rw [Nat.zero_add, List.getElem?_map, hy]; rfl⟩
structure Aut(g:Gram)(dp pl st:Nat)(d:DS):Prop where
 ln:d.rows.length=d.sets.length
 lr:d.rules.length=d.sets.length
 rw:∀r∈d.rows,r.2.length=g.terms.length+1
 dn:∀k,Done g dp pl d k
 cp:d.sets.length≤st
 rz:∀(k:Nat) (r:Int) (row:Nat × List Int),d.rules[k]? = some r→d.rows[k]? = some row→Sml r∧(0≤r→∀x∈row.2,x = -1)
theorem pre_back{α:Type}{l m:List α}(h:l <+: m){k:Nat}{x:α}(hk:k<l.length)(e:m[k]? = some x):l[k]? = some x:=by
 rw[List.getElem?_eq_getElem hk,←pre_get h (List.getElem?_eq_getElem hk)]
 exact e
theorem Done.keep{g:Gram}{dp pl:Nat}{d d':DS}{k:Nat}(h:Done g dp pl d k)(hs:k<d.sets.length)(hr:k<d.rules.length)(hw:k<d.rows.length)(h1:d.sets <+: d'.sets)(h2:d.rules <+: d'.rules)(h3:d'.rows[k]? = d.rows[k]?):Done g dp pl d' k:=fun s row e1 e2 e3=>by
 obtain⟨a,b⟩:=h s row (pre_back h2 hr e1) (pre_back h1 hs e2) (h3.symm.trans e3)
 exact⟨fun t ht=>(a t ht).pre h1 h2,b.pre h1 h2⟩
theorem res_bd{f:Fr}{n:Nat}{H:Heap}{x:Nat}{cs:List Value}{ty:TypeId}{own:Bool}{t:Value}(hf:f 10=.pointer (some ⟨x,0,none⟩))(ht:f 11=t)(h:H x=.cells cs ty own)(hl:cs.length=2):aresultsL Tryz.prog ⟨f,n,H⟩ Tryz.f6.results.toList=some [.agg cs.toArray,t]:=by
 have e:Tryz.f6.results.toList=[.cell 10 31,.tmp 11]:=rfl
 have h1:aggT Tryz.prog 31=some true:=by kernel_rfl
 have h2:Tryz.prog.cellsOf 31=2:=by kernel_rfl
 have hL:aload Tryz.prog 31 H (.pointer (some ⟨x,0,none⟩))=some { v:=.agg cs.toArray,rd:=[x] }:=by
  unfold aload
  simp only[h,h1,h2]
  rw[if_pos (by omega),List.drop_zero,List.take_of_length_le (by omega)]
 rw[e]
 unfold aresultsL aresult
 simp only[hf,hL]
 unfold aresultsL aresult
 simp only[ht]
 rfl
set_option maxHeartbeats 16000000 in
theorem build_gives{w:Value}{g:Gram}{v:Int}{dp pl st n:Nat}{H:Heap}(hw:WF n H)(hg:RG H w g)(wg:WG g)(ok:RightOK g)(hrl:g.rules.length≤48)(hdp:dp≤16)(hpl:pl≤400)(hst:st≤256) :
  Gives Tryz.prog 6 [w,.int .i64 v,.int .i64 (dp:Nat),.int .i64 (pl:Nat),.int .i64 (st:Nat)] n H fun r _ H'=>∃(dv:Value) (b:Bool) (N:List (List Int)) (R:List Int),r=.tuple #[dv,.bool b]∧RD H' dv N R∧(∀l∈N,l.length≤65)∧(b=false→N=[]∧R=[])∧(b=true→0≤v∧v<g.vars.length∧∃(d:DS) (q:Int),N=d.rows.map (·.2)∧R=d.rules∧Aut g dp pl st d∧Tr g dp pl d ((startL g v).map (·.1)) q∧(q = -1∨q=0)):=by
 have hg0:=hg
 obtain⟨pt,pv,pr,rfl,ht,hvs,hr⟩:=hg
 have g2:((gcells pt pv pr g).drop 0).take 3=gcells pt pv pr g:=rfl
 have g3:(gcells pt pv pr g).length=3:=rfl
 refine Gives.of orders ok6 (Nat.le_of_ble_eq_true rfl) ?_
 repeat refine qqn rfl ?_
 (refine qqr ?_;simp only[SS,qx19,vun,simprocAttr,-Int.reduceOfNat,-List.reduceReplicate,abox,box_cells,box_one,ff_6])
 have k1:=(Kp.new n H (.cells (gcells pt pv pr g) 25 true)).trans (Kp.new (n+1) _ (.cells [.slice none 0 0,.slice none 0 0] 31 true))
 have hG:(hset (hset H n (.cells (gcells pt pv pr g) 25 true)) (n+1) (.cells [.slice none 0 0,.slice none 0 0] 31 true)) n=_:=(hset_ne _ _ _ (by omega)).trans (hset_at _ _ _)
 have hD:=hset_at (hset H n (.cells (gcells pt pv pr g) 25 true)) (n+1) (.cells [.slice none 0 0,.slice none 0 0] 31 true)
 generalize (hset (hset H n (.cells (gcells pt pv pr g) 25 true)) (n+1) (.cells [.slice none 0 0,.slice none 0 0] 31 true))=H1 at *
 have hw1:=k1.wf hw
 repeat (first|refine qqm rfl ?_|((first|refine qqr ?_|refine qqt ?_);simp only[SS,qx19,vun,simprocAttr,-Int.reduceOfNat,-List.reduceReplicate,hG,g2,g3,ff_6]))
 refine AtCall.by (new_gives hw1 (hg0.mono hw k1) wg ok) ?_
 rintro _ n2 H2 k2 ⟨nn,ot,ov,or1,cc,cl,rfl,ne,hcl⟩
 have hw2:=k2.wf hw1
 have hle2:=k2.le
 have hm1:((16:Int)<(dp:Int))=False:=eq_false (by omega)
 have hm2:((256:Int)<(st:Int))=False:=eq_false (by omega)
 have hbo:(bq pt pv pr g (.pointer (some ⟨nn,0,none⟩)) (.int .i64 (dp:Nat)) (.int .i64 (pl:Nat)) (.int .i64 (st:Nat)) (.map (some n2))).all one=true:=rfl
 simp only[SS,qx19,vun,simprocAttr,-Int.reduceOfNat,-List.reduceReplicate,aop_min,tmm,Bool.false_eq_true,hm1,hm2,aop_makemap,amake,und_ms,bq0,bq3,bq4,bq5,bq6,bq10,bql,bqv,vmap,gc_one,gc_vc,g3,hbo,abox,List.length_singleton,List.all_cons,List.all_nil,ff_6]
 have kM:=(Kp.new n2 H2 (.map [] 0 9)).trans (Kp.new (n2+1) _ (.cells (bq pt pv pr g (.pointer (some ⟨nn,0,none⟩)) (.int .i64 (dp:Nat)) (.int .i64 (pl:Nat)) (.int .i64 (st:Nat)) (.map (some n2))) 50 true))
 have hmp:(hset (hset H2 n2 (.map [] 0 9)) (n2+1) (.cells (bq pt pv pr g (.pointer (some ⟨nn,0,none⟩)) (.int .i64 (dp:Nat)) (.int .i64 (pl:Nat)) (.int .i64 (st:Nat)) (.map (some n2))) 50 true)) n2=_:=(hset_ne _ _ _ (by omega)).trans (hset_at _ _ _)
 have hbx:=hset_at (hset H2 n2 (.map [] 0 9)) (n2+1) (.cells (bq pt pv pr g (.pointer (some ⟨nn,0,none⟩)) (.int .i64 (dp:Nat)) (.int .i64 (pl:Nat)) (.int .i64 (st:Nat)) (.map (some n2))) 50 true)
 generalize (hset (hset H2 n2 (.map [] 0 9)) (n2+1) (.cells (bq pt pv pr g (.pointer (some ⟨nn,0,none⟩)) (.int .i64 (dp:Nat)) (.int .i64 (pl:Nat)) (.int .i64 (st:Nat)) (.map (some n2))) 50 true))=H3 at *
 have hb3:BO pt pv pr g nn dp pl st n2 (n2+1) n2 H3 ⟨[],[],[],[]⟩ n2 n2 n2:=⟨hbx,⟨hmp,fun k hk=>(by cases hk),rfl,fun h=>absurd rfl h,fun h=>absurd rfl h,fun h=>absurd rfl h,⟨by omega,by omega,by omega,by omega,by omega⟩,rfl,rfl,rfl,fun r hr=>(by cases hr),List.nodup_nil,fun s hs=>(by cases hs)⟩,Nat.zero_le _,fun k r row e1 _=>by simp at e1⟩
 have hw3:=kM.wf hw2
 have k13:=k1.trans (k2.trans kM)
 have hG3:=((k2.trans kM).keep n (by omega)).trans hG
 have hD3:=((k2.trans kM).keep (n+1) (by omega)).trans hD
 refine WK.frame (fun f=>f 1=.int .i64 v∧f 5=.pointer (some ⟨n,0,none⟩)∧f 10=.pointer (some ⟨n+1,0,none⟩)∧f 11=.bool false∧f 12=.pointer (some ⟨n2+1,0,none⟩)) ⟨rfl,rfl,rfl,rfl,rfl⟩ ?_
 rintro f ⟨f1,f5,f10,f11,f12⟩
 have noRD:∀H',RD H' (.agg [Value.slice none 0 0,.slice none 0 0].toArray) [] []:=fun H'=>⟨none,none,rfl,R2.nil,fun h=>absurd rfl h⟩
 have spz:∀a b:Value,AM.splice [a,b] 0 [Value.slice none 0 0,.slice none 0 0]=[Value.slice none 0 0,.slice none 0 0]:=fun _ _=>rfl
 by_cases hv0:v<0
 ·have hv0':(v<0)=True:=eq_true hv0
  repeat (first|refine qqm rfl ?_|((first|refine qqr ?_|refine qqt ?_);simp only[SS,qx19,vun,simprocAttr,-Int.reduceOfNat,-List.reduceReplicate,f1,f5,f10,hv0',hD3,spz,decide_true,List.toList_toArray,ff_6]))
  refine WK.retNil ⟨Or.inr rfl,_,res_bd (x:=n+1) ?_ rfl (hset_at _ _ _) rfl,fun z hz=>?_,?_⟩
  ·exact f10
  ·exact(hset_ne _ _ _ (by omega)).trans (k13.keep z hz)
  ·exact⟨_,false,[],[],rfl,noRD _,fun l hl=>(by cases hl),fun _=>⟨rfl,rfl⟩,fun h=>by cases h⟩
 have hv0':(v<0)=False:=eq_false hv0
 by_cases hv1:(g.vars.length:Int)≤v
 ·have hv1':((g.vars.length:Int)≤v)=True:=eq_true hv1
  repeat (first|refine qqm rfl ?_|((first|refine qqr ?_|refine qqt ?_);simp only[SS,qx19,vun,simprocAttr,-Int.reduceOfNat,-List.reduceReplicate,f1,f5,f10,hv0',hv1',hG3,gc_1,hD3,spz,decide_true,decide_false,List.toList_toArray,ff_6]))
  refine WK.retNil ⟨Or.inr rfl,_,res_bd (x:=n+1) ?_ rfl (hset_at _ _ _) rfl,fun z hz=>?_,?_⟩
  ·exact f10
  ·exact(hset_ne _ _ _ (by omega)).trans (k13.keep z hz)
  ·exact⟨_,false,[],[],rfl,noRD _,fun l hl=>(by cases hl),fun _=>⟨rfl,rfl⟩,fun h=>by cases h⟩
 have hv1':((g.vars.length:Int)≤v)=False:=eq_false hv1
 have ne3:=ne.mono hw2 kM
 have hbx':H3 (n2+1)=.cells (bcv pt pv pr g nn dp pl st n2 (.slice none 0 0) (.slice none 0 0) (.slice none 0 0)) 50 true:=hbx
 repeat (first|refine qqm rfl ?_|((first|refine qqr ?_|refine qqt ?_);simp only[SS,qx19,vun,simprocAttr,-Int.reduceOfNat,-List.reduceReplicate,f1,f5,f12,hv0',hv1',hG3,gc_1,hbx',bv3,bvl,aop_nc,tnc,decide_false,ff_6]))
 refine AtCall.by (start_gives hw3 ne3 ok) ?_
 rintro _ n4 H4 k4 ⟨p4,rfl,hp4⟩
 have hw4:=k4.wf hw3
 have hle4:=k4.le
 have s1:=startL_mem g v
 have s2:=startL_len g v
 have s3:=startL_map ok v
 have hLI:LI g H4 (p4,startL g v):=⟨hp4,fun z hz=>⟨.inl ⟨(s1 z hz).1,(s1 z hz).2.1⟩,fun z' k e=>by rw[(s1 z hz).1]at e;cases e⟩,fun z hz=>(s1 z hz).2.2,fun z hz=>?_,by show(startL g v).length≤65536;omega,fun z hz=>by rw[(s1 z hz).2.1];exact Nat.zero_le _,fun z hz=>?_⟩
 rotate_left
 ·have hz':z.1∈(startL g v).map (·.1):=List.mem_map.2 ⟨z,hz,rfl⟩
  rw[s3]at hz'
  obtain⟨q,hq,e⟩:=List.mem_map.1 hz'
  unfold ruleIx at hq
  have hr1:=List.mem_range.1 (List.mem_filter.1 hq).1
  rw[←e]
  exact⟨by show(0:Int)≤(q:Int);omega,by show(q:Int)<48;omega⟩
 ·have hz':z.1∈(startL g v).map (·.1):=List.mem_map.2 ⟨z,hz,rfl⟩
  rw[s3]at hz'
  obtain⟨q,hq,e⟩:=List.mem_map.1 hz'
  rw[←e]
  exact fun hn=>absurd hn (by show ¬(q:Int)<0;omega)
 have hb4:=hb3.kp hw3 k4
 have ne4:=ne3.mono hw3 k4
 have kB4:=kM.trans k4
 simp only[SS,qx19,vun,simprocAttr,-Int.reduceOfNat,-List.reduceReplicate,ff_6]
 refine AtCall.byX (dstate_gives hw4 hb4 ne4 ok hst hpl (by omega) hLI hrl (by omega) hcl) ?_
 rintro _ n5 H5 k5 ⟨b,q,d5,rfl,⟨zN,zR,zS,hb5,q1,q2,q3⟩,hl5,hTr⟩
 have hle5:=k5.le
 have kB5:=kpOn kB4 k5
 have k05:Kp n H n5 H5:=⟨by omega,fun z hz=>(kB5.keep z (by omega)).trans ((k1.trans k2).keep z hz),fun h=>kB5.wf ((k1.trans k2).wf h)⟩
 have hD5:=(kB5.keep (n+1) (by omega)).trans ((k2.keep (n+1) (by omega)).trans hD)
 simp only[SS,qx19,vun,simprocAttr,-Int.reduceOfNat,-List.reduceReplicate,List.toList_toArray,ff_6]
 cases b with
 | false =>
  repeat (first|refine qqm rfl ?_|((first|refine qqr ?_|refine qqt ?_);simp only[SS,qx19,vun,simprocAttr,-Int.reduceOfNat,-List.reduceReplicate,f10,hD5,spz,List.toList_toArray,ff_6]))
  refine WK.retNil ⟨Or.inr rfl,_,res_bd (x:=n+1) ?_ rfl (hset_at _ _ _) rfl,fun z hz=>?_,?_⟩
  ·exact f10
  ·exact(hset_ne _ _ _ (by omega)).trans (k05.keep z hz)
  ·exact⟨_,false,[],[],rfl,noRD _,fun l hl=>(by cases hl),fun _=>⟨rfl,rfl⟩,fun h=>by cases h⟩
 | true =>
  have hT:=hTr rfl
  have hq:q = -1∨q=0:=by
   obtain⟨C,_,R,_,⟨_,e⟩|⟨a,k,_,_,e,_,s,hs,_⟩|⟨_,k,e,_,s,hs,_⟩⟩:=hT
   ·exact .inl e
   ·have:=(List.getElem?_eq_some_iff.1 hs).1
    simp at hl5
    right;omega
   ·have:=(List.getElem?_eq_some_iff.1 hs).1
    simp at hl5
    right;omega
  repeat (first|refine qqm rfl ?_|((first|refine qqr ?_|refine qqt ?_);simp only[SS,qx19,vun,simprocAttr,-Int.reduceOfNat,-List.reduceReplicate,ff_6]))
  clear hb4 ne4 kB4 hp4 hLI k4 hw4 k05 hD5 hb3 ne3 hbx' hbx hmp kM hw3 k13 hG3 hD3 f1 f5 f11 q1 q2 q3 hTr
  refine WK.loop (fun kk s'=>∃(s:Nat) (d:DS) (yN yR yS:Nat),Kp n2 H2 s'.n s'.H∧BO pt pv pr g nn dp pl st n2 (n2+1) n2 s'.H d yN yR yS∧s≤d.sets.length∧d5.sets <+: d.sets∧d5.rules <+: d.rules∧(∀k,k<s→Done g dp pl d k)∧s'.f 10=.pointer (some ⟨n+1,0,none⟩)∧s'.f 12=.pointer (some ⟨n2+1,0,none⟩)∧s'.f 15=.int .i64 (s:Nat)∧kk=st - s) st ?_ ?_
  ·exact⟨0,d5,zN,zR,zS,kB5,hb5,Nat.zero_le _,List.prefix_rfl,List.prefix_rfl,fun k hk=>absurd hk (Nat.not_lt_zero _),f10,f12,rfl,rfl⟩
  clear f10 f12 kB5 hb5 k5 f
  rintro kk ⟨f,n6,H6⟩ ⟨s,d,yN,yR,yS,kB6,hb6,hsl,o1,o2,hdn,f10,f12,f15,rfl⟩ ih
  simp only at kB6 hb6 f10 f12 f15 ih
  have hw6:=kB6.wf hw2
  have hle6:=kB6.le
  have hcap:=hb6.cap
  have hobj:=hb6.obj
  have k06:Kp n H n6 H6:=⟨by omega,fun z hz=>(kB6.keep z (by omega)).trans ((k1.trans k2).keep z hz),fun h=>kB6.wf ((k1.trans k2).wf h)⟩
  have hD6:=(kB6.keep (n+1) (by omega)).trans ((k2.keep (n+1) (by omega)).trans hD)
  obtain⟨aS,haS⟩:∃a,sl yS d.sets.length=.slice a d.sets.length d.sets.length:=⟨_,sl_eq _ _⟩
  have spd:∀a b c e:Value,AM.splice [a,b] 0 [c,e]=[c,e]:=fun _ _ _ _=>rfl
  by_cases hs:s<d.sets.length
  case neg =>
   have hs':((s:Int)<(d.sets.length:Int))=False:=eq_false (by omega)
   have haN:=sl_eq yN d.sets.length
   have haR:=sl_eq yR d.sets.length
   have hrd:=hb6.rd (H':=hset H6 (n+1) (.cells [.slice (slp yN d.sets.length) d.sets.length d.sets.length,.slice (slp yR d.sets.length) d.sets.length d.sets.length] 31 true)) fun z hz=>hset_ne _ _ _ (by omega)
   rw[haN,haR]at hrd
   repeat (first|refine qqm rfl ?_|((first|refine qqr ?_|refine qqt ?_);simp only[SS,qx19,vun,simprocAttr,-Int.reduceOfNat,-List.reduceReplicate,f10,f12,f15,hobj,bv9,bvl,bd7,haS,haN,haR,hs',hD6,spd,aop_nc,tnc,List.toList_toArray,ff_6]))
   refine WK.retNil ⟨Or.inr rfl,_,res_bd (x:=n+1) ?_ rfl (hset_at _ _ _) rfl,fun z hz=>?_,?_⟩
   ·exact f10
   ·exact(hset_ne _ _ _ (by omega)).trans (k06.keep z hz)
   ·refine⟨_,true,_,_,rfl,hrd,fun l hl=>?_,fun h=>(by cases h),fun _=>⟨by omega,by omega,d,q,rfl,rfl,⟨hb6.bi.ln,hb6.bi.lr,fun r hr=>(hb6.bi.row r hr).2.1,fun k=>?_,hb6.cap,hb6.rz⟩,hT.pre o1 o2,hq⟩⟩
    rotate_left
    ·by_cases hk:k<s
     ·exact hdn k hk
     ·intro s0 row _ e2 _
      have:=(List.getElem?_eq_some_iff.1 e2).1
      omega
    obtain⟨r,hr,rfl⟩:=List.mem_map.1 hl
    have:=(hb6.bi.row r hr).2.1
    have:=ok.terms
    omega
  have hs':((s:Int)<(d.sets.length:Int))=True:=eq_true (by omega)
  have hsw:IntKind.i64.wrap ((s:Int)+1)=((s+1:Nat):Int):=by rw[wrap_in (by omega) (by omega)];rfl
  repeat (first|refine qqm rfl ?_|((first|refine qqr ?_|refine qqt ?_);simp only[SS,qx19,vun,simprocAttr,-Int.reduceOfNat,-List.reduceReplicate,f12,f15,hobj,bv9,bvl,haS,hs',aop_nc,tnc,ff_6]))
  refine AtCall.byX (dfill_gives hw6 hw2 kB6 ne hb6 ok hst hpl (by omega) hrl hs hcl) ?_
  rintro _ n7 H7 k7 ⟨b,d7,rfl,⟨uN,uR,uS,hb7,q1,q2⟩,hRK,hDn⟩
  have kB7:=kpOn kB6 k7
  have hle7:=k7.le
  cases b with
  | false =>
   have k07:Kp n H n7 H7:=⟨by omega,fun z hz=>(kB7.keep z (by omega)).trans ((k1.trans k2).keep z hz),fun h=>kB7.wf ((k1.trans k2).wf h)⟩
   have hD7:=(kB7.keep (n+1) (by omega)).trans ((k2.keep (n+1) (by omega)).trans hD)
   simp only[SS,qx19,vun,simprocAttr,-Int.reduceOfNat,-List.reduceReplicate,Bool.not_false,ff_6]
   repeat (first|refine qqm rfl ?_|((first|refine qqr ?_|refine qqt ?_);simp only[SS,qx19,vun,simprocAttr,-Int.reduceOfNat,-List.reduceReplicate,f10,hD7,spz,List.toList_toArray,ff_6]))
   refine WK.retNil ⟨Or.inr rfl,_,res_bd (x:=n+1) ?_ rfl (hset_at _ _ _) rfl,fun z hz=>?_,?_⟩
   ·exact f10
   ·exact(hset_ne _ _ _ (by omega)).trans (k07.keep z hz)
   ·exact⟨_,false,[],[],rfl,noRD _,fun l hl=>(by cases hl),fun _=>⟨rfl,rfl⟩,fun h=>by cases h⟩
  | true =>
   simp only[SS,qx19,vun,simprocAttr,-Int.reduceOfNat,-List.reduceReplicate,Bool.not_true,ff_6]
   repeat (first|refine qqm rfl ?_|((first|refine qqr ?_|refine qqt ?_);simp only[SS,qx19,vun,simprocAttr,-Int.reduceOfNat,-List.reduceReplicate,f15,hsw,ff_6]))
   refine ih (st - (s+1)) (by omega) _ ?_
   refine⟨s+1,d7,uN,uR,uS,kB7,hb7,Nat.le_trans hs q1.length_le,o1.trans q1,o2.trans q2,fun k hk=>?_,f10,f12,rfl,rfl⟩
   by_cases e:k=s
   ·rw[e];exact hDn rfl
   ·have l1:=hb6.bi.ln
    have l2:=hb6.bi.lr
    exact(hdn k (by omega)).keep (by omega) (by omega) (by omega) q1 q2 (hRK k e (by omega))
end Go.Proofs.YtjlgpanihjnaeaaGreatDoor

namespace Go.Proofs.YtjlgpanihjnaeaaGreatDoor
open Go.AM
set_option maxRecDepth 100000
def few(g:Gram):Bool:=decide (g.vars.length≤8) && decide (g.terms.length≤6) && decide (g.rules.length≤24) && g.rules.all fun r=>decide (r.right.length≤8)
theorem few_gives{v:Value}{g:Gram}{n:Nat}{H:Heap}(hw:WF n H)(hg:RG H v g)(wg:WG g) :
  Gives Tryz.prog 13 [v] n H fun v _ _=>v=.bool (few g):=by
 obtain⟨pt,pv,pr,rfl,ht,hv,hr⟩:=hg
 refine Gives.of orders ok13 (Nat.le_of_ble_eq_true rfl) ?_
 have hk:=Kp.new n H (.cells (gcells pt pv pr g) 25 true)
 replace hr:=hr.mono hw hk
 have hb:=hset_at H n (.cells (gcells pt pv pr g) 25 true)
 repeat refine qqn rfl ?_
 (refine qqr ?_;simp only[SS,qx0,simprocAttr,abox,box_cells,box_one,ff_13])
 repeat refine qqn rfl ?_
 generalize hset H n (.cells (gcells pt pv pr g) 25 true)=H1 at *
 by_cases h1:(8:Int)<g.vars.length
 ·repeat (first|refine qqm rfl ?_|((first|refine qqr ?_|refine qqt ?_);simp only[SS,qx0,simprocAttr,hb,h1,gc_1,ff_13]))
  first|refine qqf ?_ ?_|refine qqg ?_ ?_
  ·exact hk.keep
  ·simp only[packed,qv,Nat.reduceEqDiff,↓reduceIte,few,ff_13]
   simp;omega
 by_cases h2:(6:Int)<g.terms.length
 ·repeat (first|refine qqm rfl ?_|((first|refine qqr ?_|refine qqt ?_);simp only[SS,qx0,simprocAttr,hb,h1,h2,gc_1,gc_0,ff_13]))
  first|refine qqf ?_ ?_|refine qqg ?_ ?_
  ·exact hk.keep
  ·simp only[packed,qv,Nat.reduceEqDiff,↓reduceIte,few,ff_13]
   simp;omega
 by_cases h3:(24:Int)<g.rules.length
 ·repeat (first|refine qqm rfl ?_|((first|refine qqr ?_|refine qqt ?_);simp only[SS,qx0,simprocAttr,hb,h1,h2,h3,gc_1,gc_0,gc_2,ff_13]))
  first|refine qqf ?_ ?_|refine qqg ?_ ?_
  ·exact hk.keep
  ·simp only[packed,qv,Nat.reduceEqDiff,↓reduceIte,few,ff_13]
   simp;omega
 repeat (first|refine qqm rfl ?_|((first|refine qqr ?_|refine qqt ?_);simp only[SS,qx0,simprocAttr,hb,h1,h2,h3,gc_1,gc_0,gc_2,ff_13]))
 refine WK.loop (fun k s=>∃i,s.n=n+1∧s.H=H1∧s.f 1=.pointer (some ⟨n,0,none⟩)∧s.f 3=.int .i64 (i:Nat)∧i≤g.rules.length∧k=g.rules.length - i∧∀r∈g.rules.take i,r.right.length≤8) g.rules.length ?_ ?_
 ·exact⟨0,rfl,rfl,rfl,rfl,Nat.zero_le _,rfl,by simp⟩
 rintro k ⟨f,n',H'⟩ ⟨i,rfl,rfl,f1,f3,hi,rfl,hall⟩ ih
 simp only at f1 f3 ih hr hb
 by_cases hir:i<g.rules.length
 ·obtain⟨x,k,cs,ty,own,p,rfl,hx,c0,c1,c2,hp⟩:=hr.at hir
  by_cases h8:(8:Int)<g.rules[i].right.length
  ·repeat (first|refine qqm rfl ?_|((first|refine qqr ?_|refine qqt ?_);simp only[SS,qx0,simprocAttr,f1,f3,hb,gc_2,hir,hx,c1,h8,ff_13]))
   first|refine qqf ?_ ?_|refine qqg ?_ ?_
   ·exact hk.keep
   ·simp only[packed,qv,Nat.reduceEqDiff,↓reduceIte,few,ff_13]
    have:g.rules.all (fun r=>decide (r.right.length≤8))=false:=by
     rw[List.all_eq_false];exact⟨g.rules[i],List.getElem_mem hir,by simp;omega⟩
    rw[this];simp
  ·repeat (first|refine qqm rfl ?_|((first|refine qqr ?_|refine qqt ?_);simp only[SS,qx0,simprocAttr,f1,f3,hb,gc_2,hir,hx,c1,h8,ff_13]))
   refine ih (g.rules.length - (i+1)) (by omega) _ ⟨i+1,rfl,rfl,f1,?_,hir,rfl,?_⟩
   ·simp only[packed,qv,Nat.reduceEqDiff,↓reduceIte,ff_13]
    have:=wg.rules;unfold maxL at this
    rw[wrap_in (by omega) (by omega)];rfl
   ·intro r hr'
    rw[List.take_succ_eq_append_getElem hir,List.mem_append]at hr'
    rcases hr' with hr'|hr'
    ·exact hall r hr'
    ·simp at hr';subst hr';omega
 ·repeat (first|refine qqm rfl ?_|((first|refine qqr ?_|refine qqt ?_);simp only[SS,qx0,simprocAttr,f1,f3,hb,gc_2,hir,ff_13]))
  first|refine qqf ?_ ?_|refine qqg ?_ ?_
  ·exact hk.keep
  ·simp only[packed,qv,Nat.reduceEqDiff,↓reduceIte,few,ff_13]
   rw[List.take_of_length_le (by omega)]at hall
   have:g.rules.all (fun r=>decide (r.right.length≤8))=true:=by
    rw[List.all_eq_true];exact fun r hr=>by simpa using hall r hr
   rw[this];simp;omega
end Go.Proofs.YtjlgpanihjnaeaaGreatDoor

namespace Go.Proofs.YtjlgpanihjnaeaaGreatDoor
open Go.AM
set_option maxRecDepth 100000
def kpB(us ws:List Bool)(r:GRule):Bool:=us.getD r.left.toNat false && prdB r.right ws
end Go.Proofs.YtjlgpanihjnaeaaGreatDoor

namespace Go.Proofs.YtjlgpanihjnaeaaGreatDoor
open Go.AM
set_option maxRecDepth 100000
def allB(none:Bool)(right:List Int)(hs:List Bool):Bool:=if none then nulB right hs else prdB right hs
theorem allB_eq(nn:Bool)(right:List Int)(hs:List Bool):allB nn right hs=right.all fun s=>if 0≤s then hs.getD s.toNat false else !nn:=by
 unfold allB nulB prdB
 cases nn
 ·simp only[Bool.false_eq_true,if_false,Bool.not_false]
  congr 1;funext s
  split
  ·rename_i h;simp;omega
  ·rename_i h;simp;omega
 ·simp only[if_true,Bool.not_true]
  congr 1;funext s
  split
  ·rename_i h;simp[h]
  ·rename_i h;simp[h]
theorem all_gives{l:Int}{right:List Int}{wt:Nat}{p:Option Addr}{x n:Nat}{H:Heap}{hs:List Bool}{nn:Bool}(hw:WF n H)(hp:RA (Value.int .i64) H p right)
  (hx:H x=.cells (hs.map .bool) 4 true) (hl:right.length≤maxL) (hr:∀s∈right,s<hs.length) :
  Gives Tryz.prog 29 [.agg #[.int .i64 l,.slice p right.length right.length,.float .f64 wt],.slice (some ⟨x,0,none⟩) hs.length hs.length,.bool nn] n H fun v _ _=>v=.bool (allB nn right hs):=by
 refine Gives.of orders ok29 (Nat.le_of_ble_eq_true rfl) ?_
 have hk:=Kp.new n H (.cells [.int .i64 l,.slice p right.length right.length,.float .f64 wt] 63 true)
 have hb:=hset_at H n (.cells [.int .i64 l,.slice p right.length right.length,.float .f64 wt] 63 true)
 replace hp:=hp.mono hw hk
 replace hx:=(hk.keep x (live_lt hw (live_of hx))).trans hx
 repeat refine qqn rfl ?_
 (refine qqr ?_;simp only[SS,qx0,vun,simprocAttr,ff_29])
 repeat refine qqn rfl ?_
 generalize hset H n (.cells [.int .i64 l,.slice p right.length right.length,.float .f64 wt] 63 true)=H1 at *
 repeat (first|refine qqm rfl ?_|((first|refine qqr ?_|refine qqt ?_);simp only[SS,qx0,vun,simprocAttr,hb,ff_29]))
 unfold maxL at hl
 refine WK.loop (fun k s=>∃j,s.n=n+1∧s.H=H1∧s.f 1=.slice (some ⟨x,0,none⟩) hs.length hs.length∧s.f 2=.bool nn∧s.f 3=.pointer (some ⟨n,0,none⟩)∧s.f 7=.int .i64 (j:Nat)∧j≤right.length∧k=right.length - j∧allB nn (right.take j) hs=true) right.length ?_ ?_
 ·exact⟨0,rfl,rfl,rfl,rfl,rfl,rfl,Nat.zero_le _,rfl,by rw[allB_eq];simp⟩
 rintro kk ⟨f,n',H'⟩ ⟨j,rfl,rfl,f1,f2,f3,f7,hj,rfl,hn⟩ ih
 simp only at f1 f2 f3 f7 ih hb hp hx hk
 by_cases hjr:j<right.length
 ·obtain⟨z,kz,ds,tz,oz,rfl,hz,e⟩:=hp.at hjr
  have htj:right.take (j+1)=right.take j++[right[j]]:=List.take_succ_eq_append_getElem hjr
  have hlt:=hr _ (List.getElem_mem hjr)
  have hjw:IntKind.i64.wrap ((j:Int)+1)=((j+1:Nat):Int):=by rw[wrap_in (by omega) (by omega)];rfl
  have stop:(if 0≤right[j] then hs.getD right[j].toNat false else !nn)=false→allB nn right hs=false:=fun h=>by
   rw[allB_eq,List.all_eq_false]
   exact⟨right[j],List.getElem_mem hjr,by rw[h];simp⟩
  have on:(if 0≤right[j] then hs.getD right[j].toNat false else !nn)=true→allB nn (right.take (j+1)) hs=true:=fun h=>by
   rw[allB_eq]at hn ⊢
   rw[htj,List.all_append,hn,Bool.true_and,List.all_cons,List.all_nil,Bool.and_true]
   exact h
  by_cases h0:0≤right[j]
  ·obtain⟨s,hs'⟩:∃s:Nat,right[j]=s:=⟨right[j].toNat,by omega⟩
   have hsl:s<hs.length:=by omega
   have hg:(hs.map Value.bool)[s]? = some (.bool hs[s]):=by rw[List.getElem?_map,List.getElem?_eq_getElem hsl];rfl
   have hneg:((s:Int)<0)=False:=by simp
   have hge:(0≤(s:Int))=True:=by simp
   rw[hs']at stop on
   have hcond:(if(0:Int)≤(s:Int) then hs.getD (s:Int).toNat false else !nn)=hs[s]:=by simp[hsl]
   rw[hcond]at stop on
   cases hb2:hs[s]
   ·rw[hb2]at hg
    repeat (first|refine qqm rfl ?_|((first|refine qqr ?_|refine qqt ?_);simp only[SS,qx0,vun,simprocAttr,f1,f2,f3,f7,hb,hjr,hz,e,hs',hge,hx,hsl,hg,ff_29]))
    first|refine qqf ?_ ?_|refine qqg ?_ ?_
    ·exact hk.keep
    ·simp only[packed,qv,Nat.reduceEqDiff,↓reduceIte,ff_29]
     rw[stop hb2]
   ·rw[hb2]at hg
    cases nn
    ·repeat (first|refine qqm rfl ?_|((first|refine qqr ?_|refine qqt ?_);simp only[SS,qx0,vun,simprocAttr,f1,f2,f3,f7,hb,hjr,hz,e,hs',hge,hneg,hx,hsl,hg,ff_29]))
     refine ih (right.length - (j+1)) (by omega) _ ⟨j+1,rfl,rfl,f1,f2,f3,?_,hjr,rfl,on hb2⟩
     simp only[packed,qv,Nat.reduceEqDiff,↓reduceIte,f7,hjw,ff_29]
    ·repeat (first|refine qqm rfl ?_|((first|refine qqr ?_|refine qqt ?_);simp only[SS,qx0,vun,simprocAttr,f1,f2,f3,f7,hb,hjr,hz,e,hs',hge,hneg,hx,hsl,hg,ff_29]))
     refine ih (right.length - (j+1)) (by omega) _ ⟨j+1,rfl,rfl,f1,f2,f3,?_,hjr,rfl,on hb2⟩
     simp only[packed,qv,Nat.reduceEqDiff,↓reduceIte,f7,hjw,ff_29]
  ·have hneg:right[j]<0:=by omega
   rw[if_neg h0]at stop on
   cases nn
   ·repeat (first|refine qqm rfl ?_|((first|refine qqr ?_|refine qqt ?_);simp only[SS,qx0,vun,simprocAttr,f1,f2,f3,f7,hb,hjr,hz,e,h0,hneg,ff_29]))
    refine ih (right.length - (j+1)) (by omega) _ ⟨j+1,rfl,rfl,f1,f2,f3,?_,hjr,rfl,on rfl⟩
    simp only[packed,qv,Nat.reduceEqDiff,↓reduceIte,f7,hjw,ff_29]
   ·repeat (first|refine qqm rfl ?_|((first|refine qqr ?_|refine qqt ?_);simp only[SS,qx0,vun,simprocAttr,f1,f2,f3,f7,hb,hjr,hz,e,h0,hneg,ff_29]))
    first|refine qqf ?_ ?_|refine qqg ?_ ?_
    ·exact hk.keep
    ·simp only[packed,qv,Nat.reduceEqDiff,↓reduceIte,ff_29]
     rw[stop rfl]
 ·repeat (first|refine qqm rfl ?_|((first|refine qqr ?_|refine qqt ?_);simp only[SS,qx0,vun,simprocAttr,f1,f2,f3,f7,hb,hjr,ff_29]))
  first|refine qqf ?_ ?_|refine qqg ?_ ?_
  ·exact hk.keep
  ·simp only[packed,qv,Nat.reduceEqDiff,↓reduceIte,ff_29]
   rw[List.take_of_length_le (by omega)]at hn
   rw[hn]
set_option maxHeartbeats 4000000 in
theorem rounds_gives {v : Value} {g : Gram} {n : Nat} {H : Heap} {nn : Bool} (hw : WF n H) (hg : RG H v g) (wg : WG g) (ok : RightOK g) :
    Gives Tryz.prog 45 [v, .bool nn] n H fun v _ H' => ∃ (hs : List Bool) (x : Nat), n ≤ x ∧ v = .slice (some ⟨x, 0, none⟩) g.vars.length g.vars.length ∧ hs.length = g.vars.length ∧ H' x = .cells (hs.map .bool) 4 true ∧ ∀ v, hold hs v ↔ (if nn then Nul g v else Prd g v) := by
  have hg0 := hg
  obtain ⟨pt, pv, pr, rfl, ht, hv, hr⟩ := hg
  refine Gives.of orders ok45 (Nat.le_of_ble_eq_true rfl) ?_
  have hk := Kp.new n H (.cells (gcells pt pv pr g) 25 true)
  have hb := hset_at H n (.cells (gcells pt pv pr g) 25 true)
  have hi := ok.inG
  have hv64 := ok.vars
  have hv1 := ok.vars1
  have hvl : (g.vars.length : Int) ≤ bigN := by unfold bigN; omega
  have hvl' : g.vars.length ≤ bigN := by unfold bigN; omega
  have hrl := ok.rules
  repeat refine qqn rfl ?_
  (refine qqr ?_; simp only [SS, qx34, simprocAttr, box_cells, box_one, ff_45])
  generalize hset H n (.cells (gcells pt pv pr g) 25 true) = H1 at *
  repeat refine qqn rfl ?_
  (refine qqr ?_; simp only [SS, qx34, simprocAttr, hb, gc_0, gc_1, gc_2, hvl, ff_45])
  rw [rep_map]
  have k1 := Kp.new (n + 1) H1 (.cells ((List.replicate g.vars.length false).map .bool) 4 true)
  have b1 := hset_at H1 (n + 1) (.cells ((List.replicate g.vars.length false).map .bool) 4 true)
  have b0 := (k1.keep n (by omega)).trans hb
  generalize hset H1 (n + 1) (.cells ((List.replicate g.vars.length false).map .bool) 4 true) = H2 at *
  have kk := hk.trans k1
  repeat (first | refine qqm rfl ?_ | ((first | refine qqr ?_ | refine qqt ?_); simp only [SS, qx34, simprocAttr, b0, gc_1, ff_45]))
  refine WK.loop (fun k s => ∃ (i x : Nat) (hs : List Bool), Kp n H s.n s.H ∧ s.f 1 = .bool nn ∧ s.f 2 = .pointer (some ⟨n, 0, none⟩) ∧ s.H n = .cells (gcells pt pv pr g) 25 true ∧ s.f 5 = .slice (some ⟨x, 0, none⟩) g.vars.length g.vars.length ∧ s.H x = .cells (hs.map .bool) 4 true ∧ n + 1 ≤ x ∧ hs.length = g.vars.length ∧
      s.f 6 = .int .i64 (i : Nat) ∧ i ≤ g.vars.length ∧ (∀ v, hold hs v → (if nn then Nul g v else Prd g v)) ∧ (ClosedR (fun r => allB nn r.right) g.rules hs ∨ i ≤ hs.count true) ∧ k = g.vars.length - i) g.vars.length ?_ ?_
  · refine ⟨0, n + 1, _, kk, rfl, rfl, b0, rfl, b1, Nat.le_refl _, by simp, rfl, Nat.zero_le _, fun v h => ?_, .inr (Nat.zero_le _), rfl⟩
    exfalso
    have := h.2
    rw [List.getD_eq_getElem?_getD, List.getElem?_replicate] at this
    split at this <;> simp at this
  rintro kk' ⟨f, n4, H4⟩ ⟨i, x, hs, kp, f1, f2, hb4, f5, hx, hxn, hhl, f6, hiv, hsound, hprog, rfl⟩ ih
  simp only at f1 f2 hb4 f5 f6 ih kp hx
  have hw4 := kp.wf hw
  have hxl := live_lt hw4 (live_of hx)
  have hn4 := kp.le
  by_cases hjr : i < g.vars.length
  · have a1 : ∀ o, hset H4 n4 o x = _ := fun o => (hset_ne _ _ _ (by omega)).trans hx
    have a2 : [x].contains n4 = false := by simp; omega
    have a3 : (hs.map Value.bool).take g.vars.length = hs.map Value.bool := List.take_of_length_le (by rw [List.length_map]; omega)
    have a4 : g.vars.length ≤ (hs.map Value.bool).length := by rw [List.length_map]; omega
    repeat (first | refine qqm rfl ?_ | ((first | refine qqr ?_ | refine qqt ?_); simp only [SS, qx34, simprocAttr, f2, f5, f6, hb4, gc_1, hjr, ebs_67_0, a1, a2, a3, a4, hvl', List.drop_zero, List.take_zero, ff_45]))
    have kp1 := ((kp.trans (Kp.new n4 H4 .dead)).trans (Kp.new (n4 + 1) _ (.cells (hs.map .bool) 4 true)))
    have c0 := (hset_ne (hset H4 n4 .dead) (n4 + 1) (.cells (hs.map .bool) 4 true) (x := n) (by omega)).trans ((hset_ne H4 n4 .dead (by omega)).trans hb4)
    have c1 := (hset_ne (hset H4 n4 .dead) (n4 + 1) (.cells (hs.map .bool) 4 true) (x := x) (by omega)).trans ((hset_ne H4 n4 .dead (by omega)).trans hx)
    have c2 := hset_at (hset H4 n4 .dead) (n4 + 1) (.cells (hs.map .bool) 4 true)
    generalize hset (hset H4 n4 .dead) (n4 + 1) (.cells (hs.map .bool) 4 true) = H5 at *
    refine WK.loop (fun k s => ∃ (j : Nat) (nx : List Bool), Kp n H s.n s.H ∧ n4 + 1 < s.n ∧ s.f 1 = .bool nn ∧ s.f 2 = .pointer (some ⟨n, 0, none⟩) ∧ s.H n = .cells (gcells pt pv pr g) 25 true ∧ s.f 5 = .slice (some ⟨x, 0, none⟩) g.vars.length g.vars.length ∧ s.H x = .cells (hs.map .bool) 4 true ∧
        s.f 7 = .slice (some ⟨n4 + 1, 0, none⟩) g.vars.length g.vars.length ∧ s.H (n4 + 1) = .cells (nx.map .bool) 4 true ∧ s.f 6 = .int .i64 (i : Nat) ∧ s.f 8 = .int .i64 (j : Nat) ∧ j ≤ g.rules.length ∧ RoundTo (fun r => allB nn r.right) g.rules j hs nx ∧ k = g.rules.length - j) g.rules.length ?_ ?_
    · exact ⟨0, hs, kp1, Nat.lt_succ_self _, f1, f2, c0, f5, c1, rfl, c2, f6, rfl, Nat.zero_le _, .start _ _ _, rfl⟩
    clear c0 c1 c2 kp1 f1 f2 f5 f6 hb4 hx a1 a2 a3 a4 kp
    rintro kk' ⟨f, n6, H6⟩ ⟨j, nx, kp, hn6, f1, f2, hb6, f5, hx, f7, hnx, f6, f8, hj, hrt, rfl⟩ ih2
    simp only at f1 f2 hb6 f5 f6 f7 f8 ih2 kp hx hnx hn6
    have hw6 := kp.wf hw
    have hxl6 := live_lt hw6 (live_of hx)
    by_cases hjl : j < g.rules.length
    · have hjw : IntKind.i64.wrap ((j : Int) + 1) = ((j + 1 : Nat) : Int) := by rw [wrap_in (by omega) (by omega)]; rfl
      have hr6 := hr.mono hw kp
      obtain ⟨z, kz, cs, ty, own, p, e0, hz, d0, d1, d2, hp⟩ := hr6.at hjl
      have d3 := take3 d0 d1 d2
      have d4 := len3 d2
      subst e0
      obtain ⟨l, hl'⟩ : ∃ l : Nat, g.rules[j].left = l := ⟨g.rules[j].left.toNat, by have := (ok.rule j hjl).left0; omega⟩
      have hlv : l < g.vars.length := by have := (ok.rule j hjl).left1; omega
      have hm := List.getElem_mem hjl
      repeat (first | refine qqm rfl ?_ | ((first | refine qqr ?_ | refine qqt ?_); simp only [SS, qx34, simprocAttr, f1, f2, f5, f8, hb6, gc_2, hjl, hz, d3, d4, ff_45]))
      have hall := all_gives (l := g.rules[j].left) (wt := g.rules[j].weight) (nn := nn) hw6 hp hx (wg.right _ hm).1 (fun s hs => by rw [hhl]; exact hi.right _ hm s hs)
      rw [hhl] at hall
      refine AtCall.by hall ?_
      rintro v n7 H7 k7 rfl
      have kp7 := kp.trans k7
      have e1 := (k7.keep n (by omega)).trans hb6
      have e2 := (k7.keep x hxl6).trans hx
      have e3 := (k7.keep (n4 + 1) (by omega)).trans hnx
      have e4 := (k7.keep z (live_lt hw6 (live_of hz))).trans hz
      have hn7 := k7.le
      cases hb7 : allB nn g.rules[j].right hs
      · simp only [SS, qx34, simprocAttr, ff_45]
        repeat (first | refine qqm rfl ?_ | ((first | refine qqr ?_ | refine qqt ?_); simp only [SS, qx34, simprocAttr, f8, ff_45]))
        refine ih2 (g.rules.length - (j + 1)) (by omega) _ ⟨j + 1, nx, kp7, by show n4 + 1 < n7; omega, f1, f2, e1, f5, e2, f7, e3, f6, ?_, hjl, hrt.skip hjl hb7, rfl⟩
        simp only [packed, qv, Nat.reduceEqDiff, ↓reduceIte, f8, hjw, ff_45]
      · simp only [SS, qx34, simprocAttr, ff_45]
        have hnl : nx.length = g.vars.length := by rw [hrt.len]; exact hhl
        have hlv' : l + 1 ≤ nx.length := by omega
        have hset' : (nx.map Value.bool).set l (.bool true) = (nx.set l true).map .bool := by rw [List.map_set]
        repeat (first | refine qqm rfl ?_ | ((first | refine qqr ?_ | refine qqt ?_); simp only [SS, qx34, simprocAttr, f2, f7, f8, e1, e3, e4, gc_2, hjl, d0, hl', hlv, hlv', hset', List.length_map, ff_45]))
        have hne : n4 + 1 ≠ x := by omega
        refine ih2 (g.rules.length - (j + 1)) (by omega) _ ⟨j + 1, nx.set l true, kp7.set _ (by omega) (by omega), by show n4 + 1 < n7; omega, f1, f2, (hset_ne _ _ _ (by omega)).trans e1, f5, (hset_ne _ _ _ (Ne.symm hne)).trans e2, f7, hset_at _ _ _, f6, ?_, hjl, hrt.take hjl hl' (by omega) hb7, rfl⟩
        simp only [packed, qv, Nat.reduceEqDiff, ↓reduceIte, f8, hjw, ff_45]
    · have hje : j = g.rules.length := by omega
      subst hje
      repeat (first | refine qqm rfl ?_ | ((first | refine qqr ?_ | refine qqt ?_); simp only [SS, qx34, simprocAttr, f2, f6, f7, f8, hb6, gc_2, hjl, ff_45]))
      have hle := fun r (hr : r ∈ g.rules) => (⟨hi.left0 r hr, by rw [hhl]; exact hi.left1 r hr⟩ : 0 ≤ r.left ∧ r.left < hs.length)
      refine ih (g.vars.length - (i + 1)) (by omega) _ ⟨i + 1, n4 + 1, nx, kp, f1, f2, hb6, rfl, hnx, by omega, by rw [hrt.len]; exact hhl, ?_, hjr, fun v h => ?_, hrt.next hle hprog, rfl⟩
      · simp only [packed, qv, Nat.reduceEqDiff, ↓reduceIte, ff_45]
        rw [wrap_in (by omega) (by omega)]; rfl
      · obtain ⟨h0, h⟩ := h
        obtain ⟨q, rfl⟩ : ∃ q : Nat, v = q := ⟨v.toNat, by omega⟩
        have hq : q < hs.length := by
          apply Classical.byContradiction
          intro hc
          have e : nx[q]? = none := List.getElem?_eq_none (by rw [hrt.len]; omega)
          rw [List.getD_eq_getElem?_getD] at h
          simp [e] at h
        rcases (hrt.mem q hq).1 (by simpa using h) with h | ⟨r, hr, _, e1, e2⟩
        · exact hsound q ⟨h0, by simpa using h⟩
        · rw [← e1]
          cases nn
          · exact .mk r hr fun s hs' h0 => hsound s (prdB_hold.1 e2 s hs' h0)
          · exact .mk r hr (fun s hs' => (nulB_hold.1 e2 s hs').1) fun s hs' => hsound s (nulB_hold.1 e2 s hs')
  · repeat (first | refine qqm rfl ?_ | ((first | refine qqr ?_ | refine qqt ?_); simp only [SS, qx34, simprocAttr, f2, f5, f6, hb4, gc_1, hjr, ff_45]))
    first | refine qqf ?_ ?_ | refine qqg ?_ ?_
    · exact kp.keep
    · simp only [packed, qv, Nat.reduceEqDiff, ↓reduceIte, f5, ff_45]
      have hcl := closed_full (hs := hs) (fun r hr => ⟨hi.left0 r hr, by rw [hhl]; exact hi.left1 r hr⟩) (hprog.imp id fun h => by omega)
      refine ⟨hs, x, by omega, rfl, hhl, hx, fun v => ⟨hsound v, ?_⟩⟩
      cases nn
      · exact closed_prd hi hcl v
      · exact closed_nul hi hcl v
end Go.Proofs.YtjlgpanihjnaeaaGreatDoor
