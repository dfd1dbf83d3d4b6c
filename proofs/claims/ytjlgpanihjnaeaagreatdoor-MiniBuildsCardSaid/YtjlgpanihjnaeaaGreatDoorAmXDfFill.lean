/- A part of a proof. Its conditions: none. -/
import Derived.Test.YtjlgpanihjnaeaaGreatDoorAmXDfPl
set_option linter.all false
namespace Go.Proofs.YtjlgpanihjnaeaaGreatDoor
open Go.AM
set_option maxRecDepth 100000
structure LI(g:Gram)(H:Heap)(s:SL):Prop where
 row:RN 4 ccell H s.1 s.2
 xc:∀z∈s.2,XC H z
 gc:∀z∈s.2,GC g z.1
 alt:∀z∈s.2,0≤z.1.alt∧z.1.alt<48
 len:s.2.length≤65536
 dp:∀z∈s.2,z.1.stack.length≤65536
 en:∀z∈s.2,EndOK z.1
theorem sml_rule{g:Gram}{c:Cfg}(hg:GC g c)(he:EndOK c)(hrl:g.rules.length≤48)(hlen:∀r∈g.rules,r.right.length≤24):Sml c.rule∧Sml c.dot:=by
 by_cases h:c.rule<0
 ·obtain⟨h1,h2⟩:=he h
  rw[h1,h2]
  exact⟨⟨by omega,by omega⟩,by omega,by omega⟩
 ·have h1:=hg.1.1
  have hl:c.rule.toNat<g.rules.length:=by omega
  obtain⟨h2,h3⟩:=hg.1.2 _ (by omega) (List.getElem?_eq_getElem hl)
  have h4:=hlen _ (List.getElem_mem hl)
  exact⟨⟨by omega,by omega⟩,by omega,by omega⟩
theorem sml_c{g:Gram}{c:Cfg}(hg:GC g c)(he:EndOK c)(ha:0≤c.alt∧c.alt<48)(hd:c.stack.length≤64)(hrl:g.rules.length≤48)(hlen:∀r∈g.rules,r.right.length≤24):SmlC c:=by
 obtain⟨h1,h2⟩:=sml_rule hg he hrl hlen
 refine⟨⟨by omega,by omega⟩,h1,h2,fun s hs=>?_,hd⟩
 obtain⟨a1,a2,a3,a4⟩:=hg.2 s hs
 have hl:s.1.toNat<g.rules.length:=by omega
 have h5:=a4 _ (List.getElem?_eq_getElem hl)
 have h6:=hlen _ (List.getElem_mem hl)
 exact⟨⟨by omega,by omega⟩,by omega,by omega⟩
def After(pt pv pr:Option Addr)(g:Gram)(nn dp pl st NB bb mp:Nat)(d:DS)(H':Heap)(d':DS):Prop :=
 ∃yN yR yS,BO pt pv pr g nn dp pl st NB bb mp H' d' yN yR yS∧d.sets <+: d'.sets∧d.rules <+: d'.rules∧d.rows <+: d'.rows
set_option maxHeartbeats 16000000 in
theorem dstate_gives{pt pv pr p pt' pv' pr':Option Addr}{g:Gram}{nn dp pl st NB bb mp n xN xR xS cc:Nat}{H:Heap}{d:DS}{L:List CA}{cl:List (Option Addr × List (Int × Int))}(hw:WF n H)(hb:BO pt pv pr g nn dp pl st NB bb mp H d xN xR xS)(ne:NE H nn pt' pv' pr' g cc cl)(ok:RightOK g)(hst:st≤256)(hpl:pl≤400)(hdp:dp≤64)(hl:LI g H (p,L))(hrl:g.rules.length≤48)(hNn:NB≤n)(hcl:cl.map (·.2)=callsL g) :
  GivesX Tryz.prog (fun z=>NB≤z) 17 [.pointer (some ⟨bb,0,none⟩),.slice p L.length L.length] n H fun v _ H'=>∃(b:Bool) (q:Int) (d':DS),v=.tuple #[.int .i64 q,.bool b]∧After pt pv pr g nn dp pl st NB bb mp d H' d'∧d'.sets.length≤d.sets.length+1∧(b=true→Tr g dp pl d' (L.map (·.1)) q):=by
 have hi:=ok.inG
 have hgl:g.terms.length≤64∧g.vars.length≤64:=⟨ok.terms,ok.vars⟩
 have hlen:∀r∈g.rules,r.right.length≤24:=fun r hr=>by
  obtain⟨i,hi,rfl⟩:=List.getElem_of_mem hr
  exact(ok.rule i hi).len
 have hclV:∀x∈cl.map (·.2),∀s∈x,VS g s:=fun x hx=>by
  obtain⟨y,hy,rfl⟩:=List.mem_map.1 hx
  exact ne.ok y hy
 refine GivesX.of orders ok17 (Nat.le_of_ble_eq_true rfl) ?_
 have hobj:=hb.obj
 repeat (first|refine qqm rfl ?_|((first|refine qqr ?_|refine qqt ?_);simp only[SS,qx20,vun,simprocAttr,hobj,bv3,bv4,bv5,bvl,aop_nc,tnc,ff_17]))
 refine AtCall.by (close_givesT hw ne ok hgl hlen hl.row hl.xc hl.gc (by omega) (by omega) hl.len hl.dp) ?_
 rintro va n1 H1 k1 ⟨b,S,hclo,hres⟩
 have hw1:=k1.wf hw
 have hle1:=k1.le
 have hb1:=hb.kp hw k1
 have stay:∀{n2 H2},Kp n1 H1 n2 H2→After pt pv pr g nn dp pl st NB bb mp d H2 d:=fun k=>⟨xN,xR,xS,hb1.kp hw1 k,List.prefix_rfl,List.prefix_rfl,List.prefix_rfl⟩
 rcases hres with⟨rfl,rfl⟩|⟨rfl,hS,hSm,hSd,hSg,pR,R,hR,rfl,hpR,hxR,hTy⟩
 ·simp only[SS,qx20,vun,simprocAttr,List.toList_toArray,ff_17]
  repeat (first|refine qqm rfl ?_|((first|refine qqr ?_|refine qqt ?_);simp only[SS,qx20,vun,simprocAttr,ff_17]))
  refine WK.retNil ⟨Or.inr rfl,_,rfl,fun z hz _=>k1.keep z hz,false,_,d,rfl,stay (Kp.refl _ _),Nat.le_succ _,fun h=>by cases h⟩
 have hfu:=hclo.spec.1 rfl
 have hmR:∀x∈R,x∈S:=fun x hx=>by
  rw[hR,List.mem_filter]at hx
  exact hx.1
 have hRch:∀z∈R,RchC g (cl.map (·.2)) (L.map (·.1)) z.1:=fun z hz=>(hfu.mem z.1).1 (List.mem_map.2 ⟨z,hmR z hz,rfl⟩)
 have hRa:∀z∈R,0≤z.1.alt∧z.1.alt<48:=fun z hz=>(hRch z hz).alt (P:=fun a=>0≤a∧a<48) fun c hc=>by
  obtain⟨y,hy,rfl⟩:=List.mem_map.1 hc
  exact hl.alt y hy
 have hRe:∀z∈R,EndOK z.1:=fun z hz=>(hRch z hz).ends hclV (fun c hc=>by
  obtain⟨y,hy,rfl⟩:=List.mem_map.1 hc
  exact hl.gc y hy) fun c hc=>by
  obtain⟨y,hy,rfl⟩:=List.mem_map.1 hc
  exact hl.en y hy
 have hRs:Srt R:=by rw[hR];exact List.Pairwise.filter _ hS
 have hRl:R.length≤400:=by rw[hR];exact Nat.le_trans (List.length_filter_le _ _) (by omega)
 have hfuc:=hfu
 rw[hcl]at hfuc
 have hC:ClS g dp pl (L.map (·.1)) (R.map (·.1)):=⟨⟨_,hfuc⟩,R,rfl,hRs,fun c=>by
  rw[←hfuc.mem]
  constructor
  ·intro h
   obtain⟨z,hz,rfl⟩:=List.mem_map.1 h
   rw[hR,List.mem_filter]at hz
   exact⟨List.mem_map.2 ⟨z,hz.1,rfl⟩,by simpa using hz.2⟩
  ·rintro⟨h1,h2⟩
   obtain⟨z,hz,rfl⟩:=List.mem_map.1 h1
   refine List.mem_map.2 ⟨z,?_,rfl⟩
   rw[hR,List.mem_filter]
   exact⟨hz,by rw[h2];rfl⟩⟩
 have hlo:LO g H1 (pR,R):=⟨hpR,hTy,hxR,fun z hz=>hSg z (hmR z hz),hRa,hRs,hRl,fun z hz=>by have:=hSd z (hmR z hz);omega⟩
 simp only[SS,qx20,vun,simprocAttr,List.toList_toArray,ff_17]
 repeat (first|refine qqm rfl ?_|((first|refine qqr ?_|refine qqt ?_);simp only[SS,qx20,vun,simprocAttr,ff_17]))
 refine AtCall.by (alts_gives hw1 hpR hRs hRa (by omega)) ?_
 rintro _ n2 H2 k2 ⟨pA,RR,rfl,hRR,hRA⟩
 have hw2:=k2.wf hw1
 have hle2:=k2.le
 have k12:=k1.trans k2
 have hb2:=hb1.kp hw1 k2
 rcases(by omega:RR.length=0∨RR.length=1∨2≤RR.length)with h0|h1|h2
 ·have h0':((RR.length:Int)=0)=True:=eq_true (by omega)
  simp only[SS,qx20,vun,simprocAttr,ff_17]
  repeat (first|refine qqm rfl ?_|((first|refine qqr ?_|refine qqt ?_);simp only[SS,qx20,vun,simprocAttr,h0',decide_true,ff_17]))
  refine WK.retNil ⟨Or.inr rfl,_,rfl,fun z hz _=>k12.keep z hz,true,_,d,rfl,stay k2,Nat.le_succ _,fun _=>⟨_,hC,RR,hRA,.inl ⟨List.eq_nil_of_length_eq_zero h0,rfl⟩⟩⟩
 ·have h0':((RR.length:Int)=0)=False:=eq_false (by omega)
  have h1':((RR.length:Int)=1)=True:=eq_true (by omega)
  have h01:0<RR.length:=by omega
  obtain⟨z,kz,cs,tz,oz,e0,hz,e⟩:=hRR.at h01
  subst e0
  have ha:0≤RR[0]∧RR[0]<48:=by
   have:=(hRA.2 RR[0]).1 (List.getElem_mem h01)
   rw[List.map_map]at this
   obtain⟨w,hw,hwa⟩:=List.mem_map.1 this
   rw[←hwa]
   exact hRa w hw
  have hRR1:RR=[RR[0]]:=by
   obtain⟨x,hx⟩:=List.length_eq_one_iff.1 h1
   subst hx
   rfl
  generalize RR[0]=a at *
  have hadd:=dadd_gives (p:=none) (L:=[]) (rule:=a) hw2 hb2 hst (LO.nil g H2) ⟨by omega,by omega⟩ (fun z hz=>by cases hz) hgl.1 (by omega)
  simp only[SS,qx20,vun,simprocAttr,ff_17]
  rw[Nat.add_zero]at e
  have h01i:((0:Int)<(RR.length:Int))=True:=eq_true (by omega)
  repeat (first|refine qqm rfl ?_|((first|refine qqr ?_|refine qqt ?_);simp only[SS,qx20,vun,simprocAttr,h0',h1',h01,h01i,hz,e,decide_true,decide_false,Nat.add_zero,ff_17]))
  refine AtCall.byX hadd ?_
  rintro _ n3 H3 k3 ⟨_,_,b,q,d',yN,yR,yS,rfl,hb3,p1,p2,p3,p4,p5⟩
  simp only[SS,qx20,vun,simprocAttr,List.toList_toArray,ff_17]
  repeat (first|refine qqm rfl ?_|((first|refine qqr ?_|refine qqt ?_);simp only[SS,qx20,vun,simprocAttr,ff_17]))
  refine WK.retNil ⟨Or.inr rfl,_,rfl,fun z hz hX=>(k3.keep z (by omega) hX).trans (k12.keep z hz),b,q,d',rfl,⟨yN,yR,yS,hb3,p1,p2,p3⟩,p4,fun hb=>by
   obtain⟨k,hk1,hk2⟩:=p5 hb
   exact⟨_,hC,RR,hRA,.inr (.inl ⟨a,k,ha.1,hRR1,hk1,hk2⟩)⟩⟩
 ·have h0':((RR.length:Int)=0)=False:=eq_false (by omega)
  have h1':((RR.length:Int)=1)=False:=eq_false (by omega)
  have hadd:=dadd_gives (rule:=-1) hw2 hb2 hst (hlo.keep (KC.kp hw1 k2) (Kp.spk hw1 k2)) ⟨by omega,by omega⟩ (fun z hz=>sml_c (hlo.gc z hz) (hRe z hz) (hRa z hz) (hlo.dp z hz) hrl hlen) hgl.1 (by omega)
  simp only[SS,qx20,vun,simprocAttr,ff_17]
  repeat (first|refine qqm rfl ?_|((first|refine qqr ?_|refine qqt ?_);simp only[SS,qx20,vun,simprocAttr,h0',h1',decide_false,ff_17]))
  refine AtCall.byX hadd ?_
  rintro _ n3 H3 k3 ⟨_,_,b,q,d',yN,yR,yS,rfl,hb3,p1,p2,p3,p4,p5⟩
  simp only[SS,qx20,vun,simprocAttr,List.toList_toArray,ff_17]
  repeat (first|refine qqm rfl ?_|((first|refine qqr ?_|refine qqt ?_);simp only[SS,qx20,vun,simprocAttr,ff_17]))
  refine WK.retNil ⟨Or.inr rfl,_,rfl,fun z hz hX=>(k3.keep z (by omega) hX).trans (k12.keep z hz),b,q,d',rfl,⟨yN,yR,yS,hb3,p1,p2,p3⟩,p4,fun hb=>by
   obtain⟨k,hk1,hk2⟩:=p5 hb
   exact⟨_,hC,RR,hRA,.inr (.inr ⟨h2,k,hk1,hk2⟩)⟩⟩
end Go.Proofs.YtjlgpanihjnaeaaGreatDoor

namespace Go.Proofs.YtjlgpanihjnaeaaGreatDoor
open Go.AM
set_option maxRecDepth 100000
set_option maxHeartbeats 16000000 in
theorem dend_gives{pt pv pr p pt' pv' pr':Option Addr}{g:Gram}{nn dp pl st NB bb mp n xN xR xS cc:Nat}{H:Heap}{d:DS}{L:List CA}{cl:List (Option Addr × List (Int × Int))}(hw:WF n H)(hb:BO pt pv pr g nn dp pl st NB bb mp H d xN xR xS)(ne:NE H nn pt' pv' pr' g cc cl)(ok:RightOK g)(hst:st≤256)(hl:LO g H (p,L))(hrl:g.rules.length≤48)(hNn:NB≤n) :
  GivesX Tryz.prog (fun z=>NB≤z) 37 [.pointer (some ⟨bb,0,none⟩),.slice p L.length L.length] n H fun v _ H'=>∃(b:Bool) (q:Int) (d':DS),v=.tuple #[.int .i64 q,.bool b]∧After pt pv pr g nn dp pl st NB bb mp d H' d'∧(b=true→En g d' (L.map (·.1)) q):=by
 have hi:=ok.inG
 have hgl:g.terms.length≤64∧g.vars.length≤64:=⟨ok.terms,ok.vars⟩
 have hlen:∀r∈g.rules,r.right.length≤24:=fun r hr=>by
  obtain⟨i,hi,rfl⟩:=List.getElem_of_mem hr
  exact(ok.rule i hi).len
 refine GivesX.of orders ok37 (Nat.le_of_ble_eq_true rfl) ?_
 have hobj:=hb.obj
 have hbbn:=live_lt hw (live_of hobj)
 have hLl:L.length≤400:=hl.len
 have hrow:RN 4 ccell H p L:=hl.row
 have v1:∀s,vcells (.agg (ccell s).toArray)=ccell s:=fun _=>rfl
 have v2:∀s,(ccell s).all one=true:=fun _=>rfl
 have v5:∀s,(ccell s).length=4:=fun _=>rfl
 have v6:∀s,((ccell s).drop 0).take 4=ccell s:=fun _=>rfl
 have v7:∀s,(ccell s).take 4=ccell s:=fun _=>rfl
 have hs4:∀(a b c d:Value) (x:CA),AM.splice [a,b,c,d] 0 (ccell x)=ccell x:=fun _ _ _ _ _=>rfl
 repeat (first|refine qqm rfl ?_|((first|refine qqr ?_|refine qqt ?_);simp only[SS,qx16,simprocAttr,ff_37]))
 refine WK.loop (fun kk s=>∃(j y:Nat) (E:List CA),Kp n H s.n s.H∧s.f 0=.pointer (some ⟨bb,0,none⟩)∧s.f 6=sl y E.length∧(E≠[]→n≤y∧y<s.n∧s.H y=.cells (E.flatMap ccell) 82 true)∧s.f 10=.slice p L.length L.length∧s.f 11=.int .i64 (L.length:Nat)∧s.f 12=.int .i64 (j:Nat)∧j≤L.length∧E=(L.take j).filter (fun x=>decide (nextL g x.1 = -1))∧kk=L.length - j) L.length ?_ ?_
 ·exact⟨0,0,[],Kp.refl _ _,rfl,rfl,fun h=>absurd rfl h,rfl,rfl,rfl,Nat.zero_le _,rfl,rfl⟩
 rintro kk ⟨f,n1,H1⟩ ⟨j,y,E,k1,f0,f6,hy,f10,f11,f12,hjl,hE,rfl⟩ ih
 simp only at k1 f0 f6 hy f10 f11 f12 ih
 have hw1:=k1.wf hw
 have hle1:=k1.le
 have hEl:E.length≤400:=by rw[hE];exact Nat.le_trans (List.length_filter_le _ _) (by rw[List.length_take];omega)
 by_cases hj:j<L.length
 case pos =>
  have hjw:IntKind.i64.wrap ((j:Int)+1)=((j+1:Nat):Int):=by rw[wrap_in (by omega) (by omega)];rfl
  have hmem:=List.getElem_mem hj
  have hgc:=hl.gc _ hmem
  have htkE:(L.take (j+1)).filter (fun x=>decide (nextL g x.1 = -1))=E++if nextL g L[j].1 = -1 then [L[j]] else []:=by
   rw[List.take_add_one,List.getElem?_eq_getElem hj,List.filter_append,hE]
   by_cases hc:nextL g L[j].1 = -1 <;> simp[hc]
  obtain⟨u2,k02,cs2,ty2,own2,z1,z2,z3,z4⟩:=(hrow.mono hw k1).at ccell_len hj
  have hobj1:=(k1.keep bb hbbn).trans hobj
  have kn:=Kp.new n1 H1 (.cells (ccell L[j]) 82 true)
  have hnn:=hset_at H1 n1 (.cells (ccell L[j]) 82 true)
  have mo:∀A,hset H1 n1 A bb=_:=fun A=>(hset_ne _ _ _ (by omega)).trans hobj1
  repeat (first|refine qqm rfl ?_|((first|refine qqr ?_|refine qqt ?_);simp only[SS,qx16,simprocAttr,f0,f10,f11,f12,hj,z1,z2,z3,z4,mo,bv3,bvl,aop_nc,tnc,v1,v2,v5,v6,hs4,hset_at,ff_37]))
  generalize hset H1 n1 (.cells (ccell L[j]) 82 true)=H2 at *
  have hw2:=kn.wf hw1
  refine AtCall.by (next_gives hw (k1.trans kn) ne hi hgl hlen hgc.1.1 (fun r h0 hr=>hgc.1.2 r h0 hr)) ?_
  rintro _ n3 H3 k3 rfl
  have hw3:=k3.wf hw2
  have hle3:=k3.le
  have hnn3:=(k3.keep n1 (Nat.lt_succ_self _)).trans hnn
  have k13:=k1.trans (kn.trans k3)
  by_cases hn1:nextL g L[j].1 = -1
  ·rw[if_pos hn1]at htkE
   have hn1':(nextL g L[j].1 = -1)=True:=eq_true hn1
   by_cases hE0:E=[]
   ·have f6':f 6=.slice none 0 0:=by rw[f6,hE0];rfl
    simp only[SS,qx16,simprocAttr,hn1',decide_true,ff_37]
    repeat (first|refine qqm rfl ?_|((first|refine qqr ?_|refine qqt ?_);simp only[SS,qx16,simprocAttr,f6',f12,hnn3,v1,v2,v5,v6,v7,hs4,hjw,hset_at,Nat.le_refl,List.drop_zero,ff_37]))
    refine ih (L.length - (j+1)) (by omega) _ ?_
    refine⟨j+1,n3+1,[L[j]],(k13.trans (Kp.new n3 H3 _)).trans (Kp.new (n3+1) _ _),f0,rfl,fun _=>⟨by omega,Nat.lt_succ_self _,?_⟩,f10,f11,rfl,hj,?_,rfl⟩
    ·rw[List.flatMap_singleton];exact hset_at _ _ _
    ·rw[htkE,hE0];rfl
   ·obtain⟨hy0,hyn,hyc⟩:=hy hE0
    have hE1:E.length≠0:=fun e=>hE0 (List.eq_nil_of_length_eq_zero e)
    have hsl:=sl_pos (y:=y) hE1
    have hyc3:=((kn.trans k3).keep y hyn).trans hyc
    have m1:∀A,hset H3 n3 A y=_:=fun A=>(hset_ne _ _ _ (by omega)).trans hyc3
    have bl:E.length+1≤bigN:=by unfold bigN;omega
    have hct:[n3].contains y=false:=by simp;omega
    have hfl:(E.flatMap ccell).length=E.length*4:=fm_len ccell_len _
    have htk:(E.flatMap ccell).take (E.length*4)=E.flatMap ccell:=List.take_of_length_le (by omega)
    have kB:∀A C,Kp n H (n3+1+1) (hset (hset (hset H3 n3 A) y .dead) (n3+1) C):=fun A C=>((k13.trans (Kp.new n3 H3 A)).set (x:=y) .dead hy0 (by omega)).trans (Kp.new (n3+1) _ C)
    simp only[SS,qx16,simprocAttr,hn1',decide_true,ff_37]
    repeat (first|refine qqm rfl ?_|((first|refine qqr ?_|refine qqt ?_);simp only[SS,qx16,simprocAttr,f6,f12,hsl,hnn3,v1,v2,v5,v6,v7,hs4,hjw,m1,hyc3,bl,hct,hfl,htk,hset_at,Nat.le_refl,List.drop_zero,ff_37]))
    refine ih (L.length - (j+1)) (by omega) _ ?_
    refine⟨j+1,n3+1,E++[L[j]],kB _ _,f0,?_,fun _=>⟨by omega,Nat.lt_succ_self _,?_⟩,f10,f11,rfl,hj,htkE.symm,rfl⟩
    ·rw[List.length_append,List.length_singleton,sl_pos (by omega)];rfl
    ·rw[List.flatMap_append,List.flatMap_singleton];exact hset_at _ _ _
  ·rw[if_neg hn1,List.append_nil]at htkE
   have hn1':(nextL g L[j].1 = -1)=False:=eq_false hn1
   simp only[SS,qx16,simprocAttr,hn1',decide_false,ff_37]
   repeat (first|refine qqm rfl ?_|((first|refine qqr ?_|refine qqt ?_);simp only[SS,qx16,simprocAttr,f12,hjw,ff_37]))
   refine ih (L.length - (j+1)) (by omega) _ ?_
   exact⟨j+1,y,E,k13,f0,f6,fun h=>⟨(hy h).1,by have:=(hy h).2.1;show _<n3;omega,((kn.trans k3).keep y (hy h).2.1).trans (hy h).2.2⟩,f10,f11,rfl,hj,htkE.symm,rfl⟩
 obtain rfl:j=L.length:=by omega
 rw[List.take_length]at hE
 clear ih
 have hEm:∀z∈E,z∈L:=fun z hz=>by rw[hE,List.mem_filter]at hz;exact hz.1
 have hEs:Srt E:=by rw[hE];exact List.Pairwise.filter _ hl.srt
 have hEa:∀z∈E,0≤z.1.alt∧z.1.alt<48:=fun z hz=>hl.alt z (hEm z hz)
 have hEr:RN 4 ccell H1 (slp y E.length) E:=by
  by_cases hE0:E=[]
  ·subst hE0;exact .inl ⟨rfl,rfl⟩
  ·obtain⟨_,_,hyc⟩:=hy hE0
   rw[slp_pos (fun e=>hE0 (List.eq_nil_of_length_eq_zero e))]
   exact .inr ⟨y,0,_,_,true,rfl,hyc,by rw[fm_len ccell_len];omega,by rw[List.drop_zero];exact List.take_of_length_le (by rw[fm_len ccell_len];omega)⟩
 rw[sl_eq]at f6
 repeat (first|refine qqm rfl ?_|((first|refine qqr ?_|refine qqt ?_);simp only[SS,qx16,simprocAttr,f6,f10,f11,f12,hj,ff_37]))
 refine AtCall.by (alts_gives hw1 hEr hEs hEa (by omega)) ?_
 rintro _ n2 H2 k2 ⟨pA,RR,rfl,hRR,hRA⟩
 have hw2:=k2.wf hw1
 have hle2:=k2.le
 have k12:=k1.trans k2
 have hb2:=hb.kp hw k12
 have hEe:endsL g (L.map (·.1))=E.map (·.1):=by rw[hE];unfold endsL;rw[List.filter_map];rfl
 rw[←hEe]at hRA
 rcases(by omega:RR.length=0∨RR.length=1∨2≤RR.length)with h0|h1|h2
 ·have h0':((RR.length:Int)=0)=True:=eq_true (by omega)
  simp only[SS,qx16,simprocAttr,ff_37]
  repeat (first|refine qqm rfl ?_|((first|refine qqr ?_|refine qqt ?_);simp only[SS,qx16,simprocAttr,h0',decide_true,ff_37]))
  refine WK.retNil ⟨Or.inr rfl,_,rfl,fun z hz _=>k12.keep z hz,true,_,d,rfl,⟨xN,xR,xS,hb2,List.prefix_rfl,List.prefix_rfl,List.prefix_rfl⟩,fun _=>⟨RR,hRA,.inl ⟨List.eq_nil_of_length_eq_zero h0,rfl⟩⟩⟩
 ·have h0':((RR.length:Int)=0)=False:=eq_false (by omega)
  have h1':((RR.length:Int)=1)=True:=eq_true (by omega)
  have h01:0<RR.length:=by omega
  have h01i:((0:Int)<(RR.length:Int))=True:=eq_true (by omega)
  obtain⟨z,kz,cs,tz,oz,e0,hz,e⟩:=hRR.at h01
  subst e0
  have ha:0≤RR[0]∧RR[0]<48:=by
   have:=(hRA.2 RR[0]).1 (List.getElem_mem h01)
   rw[hEe]at this
   rw[List.map_map]at this
   obtain⟨w,hw,hwa⟩:=List.mem_map.1 this
   rw[←hwa]
   exact hEa w hw
  have hRR1:RR=[RR[0]]:=by
   obtain⟨x,hx⟩:=List.length_eq_one_iff.1 h1
   subst hx
   rfl
  generalize RR[0]=a at *
  rw[Nat.add_zero]at e
  have hadd:=dadd_gives (p:=none) (L:=[]) (rule:=a) hw2 hb2 hst (LO.nil g H2) ⟨by omega,by omega⟩ (fun z hz=>by cases hz) hgl.1 (by omega)
  simp only[SS,qx16,simprocAttr,ff_37]
  repeat (first|refine qqm rfl ?_|((first|refine qqr ?_|refine qqt ?_);simp only[SS,qx16,simprocAttr,f0,h0',h1',h01,h01i,hz,e,decide_true,decide_false,ff_37]))
  refine AtCall.byX hadd ?_
  rintro _ n3 H3 k3 ⟨_,_,b,q,d',yN,yR,yS,rfl,hb3,p1,p2,p3,p4,p5⟩
  simp only[SS,qx16,simprocAttr,List.toList_toArray,ff_37]
  repeat (first|refine qqm rfl ?_|((first|refine qqr ?_|refine qqt ?_);simp only[SS,qx16,simprocAttr,ff_37]))
  refine WK.retNil ⟨Or.inr rfl,_,rfl,fun z hz hX=>(k3.keep z (by omega) hX).trans (k12.keep z hz),b,q,d',rfl,⟨yN,yR,yS,hb3,p1,p2,p3⟩,fun hb=>by
   obtain⟨k,hk1,hk2⟩:=p5 hb
   exact⟨RR,hRA,.inr ⟨a,k,ha.1,hRR1,hk1,hk2⟩⟩⟩
 ·have h0':((RR.length:Int)=0)=False:=eq_false (by omega)
  have h1':((RR.length:Int)=1)=False:=eq_false (by omega)
  simp only[SS,qx16,simprocAttr,ff_37]
  repeat (first|refine qqm rfl ?_|((first|refine qqr ?_|refine qqt ?_);simp only[SS,qx16,simprocAttr,h0',h1',decide_false,ff_37]))
  refine WK.retNil ⟨Or.inr rfl,_,rfl,fun z hz _=>k12.keep z hz,false,_,d,rfl,⟨xN,xR,xS,hb2,List.prefix_rfl,List.prefix_rfl,List.prefix_rfl⟩,fun h=>by cases h⟩
end Go.Proofs.YtjlgpanihjnaeaaGreatDoor

namespace Go.Proofs.YtjlgpanihjnaeaaGreatDoor
open Go.AM
set_option maxRecDepth 100000
theorem kpOn{NB n n':Nat}{HB H H':Heap}(k:Kp NB HB n H)(kx:Kx (fun z=>NB≤z) n H n' H'):Kp NB HB n' H' :=
 ⟨Nat.le_trans k.le kx.le,fun z hz=>(kx.keep z (Nat.lt_of_lt_of_le hz k.le) (by show ¬NB≤z;omega)).trans (k.keep z hz),fun h=>kx.wf (k.wf h)⟩
theorem set_map_same{α β:Type}{f:α→β}:∀{l:List α} {i:Nat} (h:i<l.length) {x:α},f x=f l[i]→(l.set i x).map f=l.map f
 | a::l,0,_,x,e=>by simp at e ⊢;exact e
 | a::l,i+1,h,x,e=>by
  have:=set_map_same (l:=l) (i:=i) (by simpa using h) (x:=x) (by simpa using e)
  simp[this]
theorem BO.put{pt pv pr:Option Addr}{g:Gram}{nn dp pl st NB bb mp xN xR xS s t:Nat}{H:Heap}{d:DS}(h:BO pt pv pr g nn dp pl st NB bb mp H d xN xR xS)(hs:s<d.rows.length)(hz:∀r,d.rules[s]? = some r→r<0)(q:Int) :
  BO pt pv pr g nn dp pl st NB bb mp (hset H d.rows[s].1 (.cells ((d.rows[s].2.set t q).map (Value.int .i64)) 3 true)) { d with rows:=d.rows.set s (d.rows[s].1,d.rows[s].2.set t q) } xN xR xS:=by
 have hb:=h.bi
 obtain⟨r1,r2,r3,r4⟩:=hb.row _ (List.getElem_mem hs)
 have hne:d.sets≠[]:=by
  intro e
  have:=hb.ln
  rw[e,List.length_nil]at this
  omega
 have hsp:SpK H (hset H d.rows[s].1 (.cells ((d.rows[s].2.set t q).map (Value.int .i64)) 3 true)):=fun z cs own hz=>(hset_ne _ _ _ (by rintro rfl;rw[r1]at hz;simp at hz)).trans hz
 have hkc:KC H (hset H d.rows[s].1 (.cells ((d.rows[s].2.set t q).map (Value.int .i64)) 3 true)):=fun z cs own hz=>(hset_ne _ _ _ (by rintro rfl;rw[r1]at hz;simp at hz)).trans hz
 refine⟨(hset_ne _ _ _ ?_).trans h.obj,⟨(hset_ne _ _ _ ?_).trans hb.map,hb.good,hb.ky,fun _=>(hset_ne _ _ _ ?_).trans ((hb.next hne).trans ?_),fun _=>(hset_ne _ _ _ (Ne.symm r4)).trans (hb.rule hne),fun _=>(hset_ne _ _ _ ?_).trans (hb.set hne),hb.ge,by simpa using hb.ln,hb.lr,hb.lk,fun r hr=>?_,?_,fun s hs=>(hb.lo s hs).keep hkc hsp⟩,h.cap,fun k r row e1 e2=>?_⟩
 ·intro e;rw[←e,h.obj]at r1;simp at r1
 ·intro e;rw[←e,hb.map]at r1;cases r1
 ·intro e;rw[←e,hb.next hne]at r1;simp at r1
 ·simp only
  rw[set_map_same (f:=rwC (g.terms.length+1)) (x:=(d.rows[s].1,d.rows[s].2.set t q)) hs rfl]
 ·intro e;rw[←e,hb.set hne]at r1;simp at r1
 ·simp only at hr
  obtain⟨j,hj,rfl⟩:=List.getElem_of_mem hr
  rw[List.length_set]at hj
  by_cases e:s=j
  ·subst e
   rw[List.getElem_set_self]
   exact⟨hset_at _ _ _,by simpa using r2,r3,r4⟩
  ·rw[List.getElem_set_ne e]
   obtain⟨a1,a2,a3,a4⟩:=hb.row _ (List.getElem_mem hj)
   refine⟨(hset_ne _ _ _ fun e2=>e ?_).trans a1,a2,a3,a4⟩
   have hn:=hb.nd
   have:=(List.getElem_inj (xs:=d.rows.map (·.1)) (h₀:=by simpa using hj) (h₁:=by simpa using hs) hn).1 (by simpa using e2)
   omega
 ·simp only
  rw[set_map_same (f:=fun r:Nat × List Int=>r.1) (x:=(d.rows[s].1,d.rows[s].2.set t q)) hs rfl]
  exact hb.nd
 ·simp only at e1 e2
  by_cases e:s=k
  ·subst e
   have:=hz r e1
   exact⟨(h.rz s r _ e1 (List.getElem?_eq_getElem hs)).1,fun h0=>by omega⟩
  ·rw[List.getElem?_set_ne e]at e2
   exact h.rz k r row e1 e2
def RowsK(d d':DS)(s:Nat):Prop:=∀k,k≠s→k<d.rows.length→d'.rows[k]? = d.rows[k]?
def Part(g:Gram)(dp pl:Nat)(d:DS)(s i:Nat)(l:List Cfg):Prop:=∀row,d.rows[s]? = some row→∀t:Nat,t<i→Tr g dp pl d (moveL g (t:Nat) l) (row.2.getD t 0)
theorem getD_set{l:List Int}{i t:Nat}{q:Int}(h:i<l.length):(l.set i q).getD t 0=if t=i then q else l.getD t 0:=by
 rw[List.getD_eq_getElem?_getD,List.getD_eq_getElem?_getD,List.getElem?_set]
 by_cases e:i=t
 ·subst e;simp[h]
 ·rw[if_neg e,if_neg (fun h=>e h.symm)]
theorem RowsK.step{d d1 d3:DS}{s:Nat}(h:RowsK d d1 s)(hp:d1.rows <+: d3.rows)(hl:d.rows.length≤d1.rows.length)(y:Nat × List Int):RowsK d { d3 with rows:=d3.rows.set s y } s:=fun k hk hkl=>by
 rw[←h k hk hkl]
 show(d3.rows.set s y)[k]? = _
 rw[List.getElem?_set_ne (fun e=>hk e.symm)]
 have h1:k<d1.rows.length:=by omega
 rw[List.getElem?_eq_getElem h1]
 exact pre_get hp (List.getElem?_eq_getElem h1)
theorem Part.put{g:Gram}{dp pl:Nat}{d1 d3:DS}{s i x:Nat}{l:List Cfg}{q:Int}(h:Part g dp pl d1 s i l)(hs1:s<d1.rows.length)(hs:s<d3.rows.length)(hp:d1.rows <+: d3.rows)(q1:d1.sets <+: d3.sets)(q2:d1.rules <+: d3.rules)(hi:i<d3.rows[s].2.length)(hT:Tr g dp pl d3 (moveL g (i:Nat) l) q) :
  Part g dp pl { d3 with rows:=d3.rows.set s (x,d3.rows[s].2.set i q) } s (i+1) l:=by
 intro row hrow t ht
 have e:row=(x,d3.rows[s].2.set i q):=by
  have:(d3.rows.set s (x,d3.rows[s].2.set i q))[s]? = some row:=hrow
  rw[List.getElem?_set_self hs]at this
  simpa using this.symm
 have e1:d3.rows[s]? = some d1.rows[s]:=pre_get hp (List.getElem?_eq_getElem hs1)
 have e2:d3.rows[s]=d1.rows[s]:=by
  rw[List.getElem?_eq_getElem hs]at e1
  simpa using e1
 subst e
 simp only
 rw[getD_set hi]
 by_cases et:t=i
 ·subst et
  rw[if_pos rfl]
  exact hT.pre (d':={ d3 with rows:=d3.rows.set s (x,d3.rows[s].2.set t q) }) List.prefix_rfl List.prefix_rfl
 ·rw[if_neg et,e2]
  exact(h _ (List.getElem?_eq_getElem hs1) t (by omega)).pre q1 q2
def Aft2(pt pv pr:Option Addr)(g:Gram)(nn dp pl st NB bb mp:Nat)(d:DS)(H':Heap)(d':DS):Prop :=
 ∃yN yR yS,BO pt pv pr g nn dp pl st NB bb mp H' d' yN yR yS∧d.sets <+: d'.sets∧d.rules <+: d'.rules
set_option maxHeartbeats 16000000 in
theorem dfill_gives{pt pv pr pt' pv' pr':Option Addr}{g:Gram}{nn dp pl st NB bb mp n xN xR xS cc s:Nat}{HB H:Heap}{d:DS}{cl:List (Option Addr × List (Int × Int))}(hw:WF n H)(hwB:WF NB HB)(kB:Kp NB HB n H)(neB:NE HB nn pt' pv' pr' g cc cl)(hb:BO pt pv pr g nn dp pl st NB bb mp H d xN xR xS)(ok:RightOK g)(hst:st≤256)(hpl:pl≤400)(hdp:dp≤64)(hrl:g.rules.length≤48)(hs:s<d.sets.length)(hcl:cl.map (·.2)=callsL g) :
  GivesX Tryz.prog (fun z=>NB≤z) 19 [.pointer (some ⟨bb,0,none⟩),.int .i64 (s:Nat)] n H fun v _ H'=>∃(b:Bool) (d':DS),v=.bool b∧Aft2 pt pv pr g nn dp pl st NB bb mp d H' d'∧RowsK d d' s∧(b=true→Done g dp pl d' s):=by
 have hi:=ok.inG
 have hgt:=ok.terms
 refine GivesX.of orders ok19 (Nat.le_of_ble_eq_true rfl) ?_
 have hobj:=hb.obj
 have hk0:d.sets.length≠0:=by omega
 have hne:d.sets≠[]:=fun e=>hk0 (by rw[e];rfl)
 have hsR:s<d.rules.length:=by rw[hb.bi.lr];exact hs
 have hxR:=hb.bi.rule hne
 have hri:=int_at hsR
 have hsli:((s:Int)<(d.sets.length:Int))=True:=eq_true (by omega)
 by_cases hr0:0≤d.rules[s]
 ·have hr0':((0:Int)≤d.rules[s])=True:=eq_true hr0
  repeat (first|refine qqm rfl ?_|((first|refine qqr ?_|refine qqt ?_);simp only[SS,qx33,vun,simprocAttr,hobj,bv8',bvl,sl_pos hk0,hxR,hri,hs,hsli,hr0',aop_nc,tnc,decide_true,ff_19]))
  refine WK.retNil ⟨Or.inr rfl,_,rfl,fun z hz _=>rfl,true,d,rfl,⟨xN,xR,xS,hb,List.prefix_rfl,List.prefix_rfl⟩,fun _ _ _=>rfl,fun _ s0 row e _ _=>by
   rw[List.getElem?_eq_getElem hsR]at e
   simp at e
   omega⟩
 have hr0':((0:Int)≤d.rules[s])=False:=eq_false hr0
 have hrn:∀(d':DS),d.rules <+: d'.rules→∀r,d'.rules[s]? = some r→r<0:=fun d' h r e=>by
  rw[pre_get h (List.getElem?_eq_getElem hsR)]at e
  simp at e
  omega
 repeat (first|refine qqm rfl ?_|((first|refine qqr ?_|refine qqt ?_);simp only[SS,qx33,vun,simprocAttr,hobj,bv0,bv8',bvl,sl_pos hk0,hxR,hri,hs,hsli,hr0',aop_nc,tnc,decide_false,ff_19]))
 refine WK.loop (fun kk st'=>∃(i:Nat) (d':DS) (yN yR yS:Nat),Kx (fun z=>NB≤z) n H st'.n st'.H∧BO pt pv pr g nn dp pl st NB bb mp st'.H d' yN yR yS∧d.sets <+: d'.sets∧d.rules <+: d'.rules∧st'.f 0=.pointer (some ⟨bb,0,none⟩)∧st'.f 1=.int .i64 (s:Nat)∧st'.f 24=.int .i64 (g.terms.length:Nat)∧st'.f 25=.int .i64 (i:Nat)∧i≤g.terms.length∧RowsK d d' s∧Part g dp pl d' s i (d.sets[s].2.map (·.1))∧kk=g.terms.length - i) g.terms.length ?_ ?_
 ·exact⟨0,d,xN,xR,xS,Kx.refl _ _ _,hb,List.prefix_rfl,List.prefix_rfl,rfl,rfl,rfl,rfl,Nat.zero_le _,fun _ _ _=>rfl,fun row _ t ht=>absurd ht (Nat.not_lt_zero _),rfl⟩
 clear hobj hsR hxR hri hr0 hr0' hsli
 rintro kk ⟨f,n1,H1⟩ ⟨i,d1,yN,yR,yS,k1,hb1,p1,p2,f0,f1,f24,f25,hil,hRK,hPt,rfl⟩ ih
 simp only at k1 hb1 f0 f1 f24 f25 ih
 have kB1:=kpOn kB k1
 have hw1:=kB1.wf hwB
 have hle1:=k1.le
 have hlB:=kB.le
 have ne1:=neB.mono hwB kB1
 have hs1:s<d1.sets.length:=Nat.lt_of_lt_of_le hs p1.length_le
 have hk1:d1.sets.length≠0:=by omega
 have hne1:d1.sets≠[]:=fun e=>hk1 (by rw[e];rfl)
 have hsl1:((s:Int)<(d1.sets.length:Int))=True:=eq_true (by omega)
 have hobj1:=hb1.obj
 have hxS1:=hb1.bi.set hne1
 have hgS:(d1.sets.map stC)[s]? = some (.slice d1.sets[s].1 d1.sets[s].2.length d1.sets[s].2.length):=by rw[List.getElem?_map,List.getElem?_eq_getElem hs1];rfl
 have hlo:=hb1.bi.lo _ (List.getElem_mem hs1)
 have hss:d1.sets[s]=d.sets[s]:=by
  have:=pre_get p1 (List.getElem?_eq_getElem hs)
  rw[List.getElem?_eq_getElem hs1]at this
  simpa using this
 have hrl1:d.rows.length≤d1.rows.length:=by rw[hb.bi.ln,hb1.bi.ln];exact p1.length_le
 have hsr1:s<d1.rows.length:=by rw[hb1.bi.ln];exact hs1
 by_cases hlt:i<g.terms.length
 case pos =>
  have hlt':((i:Int)<(g.terms.length:Int))=True:=eq_true (by omega)
  have hiw:IntKind.i64.wrap ((i:Int)+1)=((i+1:Nat):Int):=by rw[wrap_in (by omega) (by omega)];rfl
  repeat refine qqn rfl ?_
  (refine qqr ?_;simp only[SS,qx33,vun,simprocAttr,f24,f25,hlt',ff_19])
  repeat refine qqn rfl ?_
  refine qqm rfl ?_
  apply WK.skipSeq;apply WK.seq;apply WK.block;apply WK.seq
  (refine qqr ?_;simp only[SS,qx33,vun,simprocAttr,f25,ff_19])
  repeat refine qqn rfl ?_
  (refine WK.rgs [true,true,true,true,true,true,true,true,true,true,true,true,true,true,false] (by kernel_rfl) (by kernel_rfl) ?_;simp only[wz,SS,forall_const,wx,tguard,acallee,top,tval,fput,tor,vsh,vbin,vun,tload,tload2,tload3,tstore,tstore2,tstore3,Go.AM.splice,one,tidx,tidx2,tidx3,tfa,tfa2,tlen2,tlen3,textr,simprocAttr,f0,f1,hobj1,bv3,bv9,bvl,sl_pos hk1,hxS1,hgS,hs1,hsl1,aop_nc,tnc,Nat.zero_add,ff_19])
  refine AtCall.by (move_gives hw1 ne1 ok hlo.row hlo.xc hlo.gc (by have:=hlo.len;omega) (fun z hz=>by have:=hlo.dp z hz;omega)) ?_
  rintro _ n2 H2 k2 ⟨pM,M,rfl,hM,hMm,hMx⟩
  have hw2:=k2.wf hw1
  have hle2:=k2.le
  have hMat:∀z∈M,∃y∈d1.sets[s].2,z.1=mvC y.1∧0≤((i:Nat):Int)∧nextL g y.1=((i:Nat):Int):=fun z hz=>by
   have h1:z.1∈moveL g ((i:Nat):Int) (d1.sets[s].2.map (·.1)):=by rw[←hMm];exact List.mem_map.2 ⟨z,hz,rfl⟩
   obtain⟨dd,hd,e,h0,hn⟩:=moveL_at h1
   obtain⟨yy,hy,rfl⟩:=List.mem_map.1 hd
   exact⟨yy,hy,e,h0,hn⟩
  have hMl:M.length≤400:=by
   have h1:M.length=(M.map (·.1)).length:=(List.length_map _).symm
   rw[h1,hMm]
   exact Nat.le_trans moveL_len (by rw[List.length_map];exact hlo.len)
  have hLI:LI g H2 (pM,M):=⟨hM,hMx,fun z hz=>by
   obtain⟨y,hy,e,h0,hn⟩:=hMat z hz
   rw[e];exact mvC_gc (hlo.gc y hy) h0 hn,fun z hz=>by
   obtain⟨y,hy,e,h0,hn⟩:=hMat z hz
   rw[e];exact hlo.alt y hy,by show M.length≤65536;omega,fun z hz=>by
   obtain⟨y,hy,e,h0,hn⟩:=hMat z hz
   have:=hlo.dp y hy
   rw[e];show y.1.stack.length≤65536;omega,fun z hz=>by
   obtain⟨y,hy,e,h0,hn⟩:=hMat z hz
   obtain⟨r,r0,_⟩:=next_dot (hlo.gc y hy) h0 hn
   rw[e];exact fun hneg=>absurd hneg (by show ¬y.1.rule<0;omega)⟩
  have hb2:=hb1.kp hw1 k2
  have ne2:=ne1.mono hw1 k2
  simp only[SS,qx33,vun,simprocAttr,ff_19]
  refine AtCall.byX (dstate_gives hw2 hb2 ne2 ok hst hpl hdp hLI hrl (by omega) hcl) ?_
  rintro _ n3 H3 k3 ⟨b,q,d3,rfl,⟨zN,zR,zS,hb3,q1,q2,q3⟩,_,hTr⟩
  have hle3:=k3.le
  have k13:Kx (fun z=>NB≤z) n H n3 H3:=(k1.trans k2.kx).trans k3
  have p1':=p1.trans q1
  have p2':=p2.trans q2
  simp only[SS,qx33,vun,simprocAttr,List.toList_toArray,ff_19]
  cases b with
  | false =>
   repeat (first|refine qqm rfl ?_|((first|refine qqr ?_|refine qqt ?_);simp only[SS,qx33,vun,simprocAttr,ff_19]))
   refine WK.retNil ⟨Or.inr rfl,_,rfl,k13.keep,false,d3,rfl,⟨zN,zR,zS,hb3,p1',p2'⟩,fun k hk hkl=>(pre_get q3 (List.getElem?_eq_getElem (by omega))).trans ((List.getElem?_eq_getElem (by omega)).symm.trans (hRK k hk hkl)),fun h=>by cases h⟩
  | true =>
   have hs3:s<d3.sets.length:=Nat.lt_of_lt_of_le hs p1'.length_le
   have hsr3:s<d3.rows.length:=by rw[hb3.bi.ln];exact hs3
   have hk3:d3.sets.length≠0:=by omega
   have hne3:d3.sets≠[]:=fun e=>hk3 (by rw[e];rfl)
   have hsl3:((s:Int)<(d3.sets.length:Int))=True:=eq_true (by omega)
   have hobj3:=hb3.obj
   have hxN3:=hb3.bi.next hne3
   have hgN:(d3.rows.map (rwC (g.terms.length+1)))[s]? = some (.slice (some ⟨d3.rows[s].1,0,none⟩) (g.terms.length+1) (g.terms.length+1)):=by rw[List.getElem?_map,List.getElem?_eq_getElem hsr3];rfl
   obtain⟨r1,r2,r3,r4⟩:=hb3.bi.row _ (List.getElem_mem hsr3)
   have hput:=hb3.put (t:=i) hsr3 (hrn _ p2') q
   have hset:(d3.rows[s].2.map (Value.int .i64)).set i (.int .i64 q)=(d3.rows[s].2.set i q).map (Value.int .i64):=List.map_set.symm
   have hfit:i+1≤(d3.rows[s].2.map (Value.int .i64)).length:=by rw[List.length_map,r2];omega
   have hfit2:i<(d3.rows[s].2.map (Value.int .i64)).length:=by omega
   have hlw:i<g.terms.length+1:=by omega
   have hlwi:((i:Int)<((g.terms.length+1:Nat):Int))=True:=eq_true (by omega)
   repeat (first|refine qqm rfl ?_|((first|refine qqr ?_|refine qqt ?_);simp only[SS,qx33,vun,simprocAttr,f0,f1,f25,hobj3,bv7,bvl,sl_pos hk3,hxN3,hgN,hs3,hsr3,hsl3,r1,hset,hfit,hfit2,hlw,hlwi,hiw,aop_nc,tnc,Nat.zero_add,ff_19]))
   have hw3:=(kpOn kB k13).wf hwB
   refine ih (g.terms.length - (i+1)) (by omega) _ ?_
   have hT:=hTr rfl
   rw[show(M.map (·.1))=moveL g ((i:Nat):Int) (d.sets[s].2.map (·.1)) by rw[←hss];exact hMm]at hT
   exact⟨i+1,_,zN,zR,zS,k13.set (x:=d3.rows[s].1) _ (.inl r3) (live_lt hw3 (live_of r1)),hput,p1',p2',f0,f1,f24,rfl,hlt,hRK.step q3 hrl1 _,hPt.put hsr1 hsr3 q3 q1 q2 (by rw[r2];omega) hT,rfl⟩
 obtain rfl:i=g.terms.length:=by omega
 clear ih
 have hltn:¬g.terms.length<g.terms.length:=Nat.lt_irrefl _
 have hlt':((g.terms.length:Int)<(g.terms.length:Int))=False:=eq_false (by omega)
 repeat (first|refine qqm rfl ?_|((first|refine qqr ?_|refine qqt ?_);simp only[SS,qx33,vun,simprocAttr,f0,f1,f24,f25,hlt',hobj1,bv9,bvl,sl_pos hk1,hxS1,hgS,hs1,hsl1,aop_nc,tnc,Nat.zero_add,ff_19]))
 refine AtCall.byX (dend_gives hw1 hb1 ne1 ok hst hlo hrl (by omega)) ?_
 rintro _ n3 H3 k3 ⟨b,q,d3,rfl,⟨zN,zR,zS,hb3,q1,q2,q3⟩,hEn⟩
 have hle3:=k3.le
 have k13:Kx (fun z=>NB≤z) n H n3 H3:=k1.trans k3
 have p1':=p1.trans q1
 have p2':=p2.trans q2
 have hs3:s<d3.sets.length:=Nat.lt_of_lt_of_le hs p1'.length_le
 have hsr3:s<d3.rows.length:=by rw[hb3.bi.ln];exact hs3
 have hk3:d3.sets.length≠0:=by omega
 have hne3:d3.sets≠[]:=fun e=>hk3 (by rw[e];rfl)
 have hsl3:((s:Int)<(d3.sets.length:Int))=True:=eq_true (by omega)
 have hobj3:=hb3.obj
 have hxN3:=hb3.bi.next hne3
 have hgN:(d3.rows.map (rwC (g.terms.length+1)))[s]? = some (.slice (some ⟨d3.rows[s].1,0,none⟩) (g.terms.length+1) (g.terms.length+1)):=by rw[List.getElem?_map,List.getElem?_eq_getElem hsr3];rfl
 obtain⟨r1,r2,r3,r4⟩:=hb3.bi.row _ (List.getElem_mem hsr3)
 have hput:=hb3.put (t:=g.terms.length) hsr3 (hrn _ p2') q
 have hset:(d3.rows[s].2.map (Value.int .i64)).set g.terms.length (.int .i64 q)=(d3.rows[s].2.set g.terms.length q).map (Value.int .i64):=List.map_set.symm
 have hfit:g.terms.length+1≤(d3.rows[s].2.map (Value.int .i64)).length:=by rw[List.length_map,r2];omega
 have hfit2:g.terms.length<(d3.rows[s].2.map (Value.int .i64)).length:=by omega
 have hlw:g.terms.length<g.terms.length+1:=by omega
 have hlwi:((g.terms.length:Int)<((g.terms.length+1:Nat):Int))=True:=eq_true (by omega)
 have hw3:=(kpOn kB k13).wf hwB
 simp only[SS,qx33,vun,simprocAttr,List.toList_toArray,ff_19]
 repeat (first|refine qqm rfl ?_|((first|refine qqr ?_|refine qqt ?_);simp only[SS,qx33,vun,simprocAttr,f0,f1,hobj3,bv0,bv7,bvl,sl_pos hk3,hxN3,hgN,hs3,hsr3,hsl3,r1,hset,hfit,hfit2,hlw,hlwi,aop_nc,tnc,Nat.zero_add,ff_19]))
 refine WK.retNil ⟨Or.inr rfl,_,rfl,(k13.set (x:=d3.rows[s].1) _ (.inl r3) (live_lt hw3 (live_of r1))).keep,b,_,rfl,⟨zN,zR,zS,hput,p1',p2'⟩,hRK.step q3 hrl1 _,fun hbt s0 row e1 e2 e3=>?_⟩
 have e4:row=(d3.rows[s].1,d3.rows[s].2.set g.terms.length q):=by
  have:(d3.rows.set s (d3.rows[s].1,d3.rows[s].2.set g.terms.length q))[s]? = some row:=e3
  rw[List.getElem?_set_self hsr3]at this
  simpa using this.symm
 have e5:s0=d.sets[s]:=by
  have:=pre_get p1' (List.getElem?_eq_getElem hs)
  have e2':d3.sets[s]? = some s0:=e2
  rw[this]at e2'
  simpa using e2'.symm
 have e6:d3.rows[s]? = some d1.rows[s]:=pre_get q3 (List.getElem?_eq_getElem hsr1)
 have e7:d3.rows[s]=d1.rows[s]:=by
  rw[List.getElem?_eq_getElem hsr3]at e6
  simpa using e6
 have hE:=hEn hbt
 rw[hss]at hE
 subst e4 e5
 simp only
 refine⟨fun t ht=>?_,?_⟩
 ·rw[getD_set (by rw[r2];omega),if_neg (by omega),e7]
  exact(hPt _ (List.getElem?_eq_getElem hsr1) t ht).pre q1 q2
 ·rw[getD_set (by rw[r2];omega),if_pos rfl]
  exact hE.pre (d':={ d3 with rows:=d3.rows.set s (d3.rows[s].1,d3.rows[s].2.set g.terms.length q) }) List.prefix_rfl List.prefix_rfl
end Go.Proofs.YtjlgpanihjnaeaaGreatDoor
