/- A part of a proof. Its conditions: none. -/
import Derived.Test.YtjlgpanihjnaeaaGreatDoorAmXLfRight
import Derived.Test.YtjlgpanihjnaeaaGreatDoorAmC
import Derived.Test.YtjlgpanihjnaeaaGreatDoorAmXAtCome
set_option linter.all false
namespace Go.Proofs.YtjlgpanihjnaeaaGreatDoor
open Go.AM
set_option maxRecDepth 100000
theorem RightOK.inG{g:Gram}(h:RightOK g):InG g:=by
 refine⟨fun r hr=>?_,fun r hr=>?_,fun r hr s hs=>?_,fun r hr s hs=>?_⟩ <;> obtain⟨i,hi,rfl⟩:=List.getElem_of_mem hr
 ·exact(h.rule i hi).left0
 ·exact(h.rule i hi).left1
 ·exact((h.rule i hi).sym s hs).1
 ·exact((h.rule i hi).sym s hs).2
theorem rep_map(l:Nat):rep l [Value.bool false]=(List.replicate l false).map .bool:=by
 induction l with
 | zero=>rfl
 | succ l ih=>rw[List.replicate_succ,List.map_cons,←ih];rfl
end Go.Proofs.YtjlgpanihjnaeaaGreatDoor

namespace Go.Proofs.YtjlgpanihjnaeaaGreatDoor
open Go.AM
set_option maxRecDepth 100000
def OwnS(H:Heap)(N:Nat)(p:Option Addr)(l:List (Int × Int)):Prop:=(p=none∧l=[])∨∃z,p=some ⟨z,0,none⟩∧N≤z∧H z=.cells (l.flatMap spC) 75 true
theorem OwnS.xc{H:Heap}{N:Nat}{p:Option Addr}{l:List (Int × Int)}(h:OwnS H N p l)(a r d:Int):XC H (⟨a,r,d,l⟩,p):=by
 rcases h with⟨rfl,rfl⟩|⟨z,rfl,_,h⟩
 ·exact⟨.inl ⟨rfl,rfl⟩,fun z k e=>by cases e⟩
 ·exact⟨.inr ⟨z,0,_,_,true,rfl,h,by rw[fm_len spC_len];simp,by rw[List.drop_zero];exact List.take_of_length_le (by rw[fm_len spC_len];simp)⟩,fun z' k e=>by cases e;exact⟨_,_,h⟩⟩
set_option maxHeartbeats 8000000 in
theorem clone_gives{x:Cfg × Option Addr}{n:Nat}{H:Heap}(hw:WF n H)(hx:XC H x)(hl:x.1.stack.length≤131072) :
  Gives Tryz.prog 56 [.slice x.2 x.1.stack.length x.1.stack.length] n H fun v n' H'=>∃p,v=.slice p x.1.stack.length x.1.stack.length∧OwnS H' n p x.1.stack:=by
 refine Gives.of orders ok56 (Nat.le_of_ble_eq_true rfl) ?_
 have hu:Tryz.prog.underlying 73=some (.slice 75):=by kernel_rfl
 rcases hx.1 with⟨e1,e2⟩|⟨z,k,cs,ty,own,e1,hz,e3,e4⟩
 ·rw[e1,e2]
  repeat (first|refine qqm rfl ?_|((first|refine qqr ?_|refine qqt ?_);simp only[SS,qx22,simprocAttr,aop_sn hu,asn,List.length_nil,ff_56]))
  first|refine qqf ?_ ?_|refine qqg ?_ ?_
  ·exact fun _ _=>rfl
  ·simp only[packed,qv,Nat.reduceEqDiff,↓reduceIte,ff_56]
   exact⟨none,rfl,.inl ⟨rfl,rfl⟩⟩
 ·rw[e1]
  have hzn:=live_lt hw (live_of hz)
  have q1:∀ob,hset H n ob z=_:=fun ob=>(hset_ne _ _ _ (by omega)).trans hz
  have hct:[z].contains n=false:=by simp;omega
  have bl:x.1.stack.length≤bigN:=by unfold bigN;omega
  have bl':0+x.1.stack.length≤bigN:=by unfold bigN;omega
  repeat (first|refine qqm rfl ?_|((first|refine qqr ?_|refine qqt ?_);simp only[SS,qx22,simprocAttr,aop_sn hu,asn,hz,e3,e4,q1,hct,bl,bl',hset_at,List.length_nil,List.take_nil,List.drop_nil,List.nil_append,Nat.le_refl,Nat.zero_mul,Nat.zero_add,ff_56]))
  first|refine qqf ?_ ?_|refine qqg ?_ ?_
  ·exact((Kp.new n H _).trans (Kp.new (n+1) _ _)).keep
  ·simp only[packed,qv,Nat.reduceEqDiff,↓reduceIte,ff_56]
   exact⟨some ⟨n+1,0,none⟩,rfl,.inr ⟨n+1,rfl,by omega,hset_at _ _ _⟩⟩
abbrev CA:=Cfg × Option Addr
inductive Comes(deep most:Nat):List CA→List CA→List Cfg→Bool→List CA→List CA→Prop where
 | nil (S T:List CA):Comes deep most S T [] true S T
 | fail {S T:List CA} {c:Cfg} {l:List Cfg} (h:deep<c.stack.length∨c∉S.map (·.1)∧most≤S.length):Comes deep most S T (c::l) false S T
 | cons {S T S1 T1 S2 T2:List CA} {c:Cfg} {p:Option Addr} {l:List Cfg} {b:Bool} (h:Come deep most S T (c,p) S1 T1) (k:Comes deep most S1 T1 l b S2 T2):Comes deep most S T (c::l) b S2 T2
theorem Comes.app{deep most:Nat}{S T S1 T1 S2 T2:List CA}{l r:List Cfg}{b b':Bool}(h:Comes deep most S T l b' S1 T1)(hb:b'=true)(k:Comes deep most S1 T1 r b S2 T2):Comes deep most S T (l++r) b S2 T2:=by
 induction h with
 | nil=>exact k
 | fail=>cases hb
 | cons h _ ih=>exact .cons h (ih hb k)
def backL(g:Gram)(cl:List (List (Int × Int)))(c:Cfg):List Cfg:=match c.stack.getLast? with
 | some s=>[⟨c.alt,s.1,s.2,c.stack.dropLast⟩]
 | none=>match g.rules[c.rule.toNat]? with
  | none=>[]
  | some r=>(if r.left=0 then [⟨c.alt,-1,0,[]⟩] else [])++(cl.getD r.left.toNat []).map fun s=>⟨c.alt,s.1,s.2,[]⟩
def VS(g:Gram)(s:Int × Int):Prop:=0≤s.1∧s.1<g.rules.length∧0≤s.2∧∀r,g.rules[s.1.toNat]? = some r→s.2≤r.right.length
structure NE(H:Heap)(nn:Nat)(pt pv pr:Option Addr)(g:Gram)(cc:Nat)(cl:List (Option Addr × List (Int × Int))):Prop where
 net:H nn=.cells [.slice pt g.terms.length g.terms.length,.slice pv g.vars.length g.vars.length,.slice pr g.rules.length g.rules.length,.slice (some ⟨cc,0,none⟩) cl.length cl.length] 72 true
 tms:RA Value.string H pt g.terms
 vrs:RA Value.string H pv g.vars
 rls:RR H pr g.rules
 row:H cc=.cells (cl.map fun x=>.slice x.1 x.2.length x.2.length) 73 true
 st:∀x∈cl,XC H (⟨0,0,0,x.2⟩,x.1)
 len:cl.length=g.vars.length
 ok:∀x∈cl,∀s∈x.2,VS g s
 big:∀x∈cl,x.2.length≤65536
theorem NE.mono{n n':Nat}{H H':Heap}{nn:Nat}{pt pv pr:Option Addr}{g:Gram}{cc:Nat}{cl:List (Option Addr × List (Int × Int))}(h:NE H nn pt pv pr g cc cl)(hw:WF n H)(k:Kp n H n' H'):NE H' nn pt pv pr g cc cl :=
 ⟨(k.keep nn (live_lt hw (live_of h.net))).trans h.net,h.tms.mono hw k,h.vrs.mono hw k,h.rls.mono hw k,(k.keep cc (live_lt hw (live_of h.row))).trans h.row,fun x hx=>(h.st x hx).keep (Kp.spk hw k),h.len,h.ok,h.big⟩
theorem XC.pre{H:Heap}{p:Option Addr}{a r d a' r' d':Int}{st:List (Int × Int)}{s:Int × Int}(h:XC H (⟨a,r,d,st++[s]⟩,p)):XC H (⟨a',r',d',st⟩,p):=by
 refine⟨?_,h.2⟩
 rcases h.1 with⟨_,e⟩|⟨z,k,cs,ty,own,e1,e2,e3,e4⟩
 ·simp at e
 ·have hl:(st++[s]).length=st.length+1:=by simp
  refine .inr ⟨z,k,cs,ty,own,e1,e2,by simp only[hl]at e3;show k+st.length*2≤_;omega,?_⟩
  simp only[hl]at e4
  have h2:=congrArg (List.take (st.length*2)) e4
  rw[List.take_take,Nat.min_eq_left (by omega),List.flatMap_append,List.take_append_of_le_length (by rw[fm_len spC_len];exact Nat.le_refl _)]at h2
  exact h2.trans (List.take_of_length_le (by rw[fm_len spC_len];exact Nat.le_refl _))
set_option maxHeartbeats 16000000 in
theorem back_gives{N co nn ys deep most n cc:Nat}{H0 H:Heap}{S T:List CA}{vt:Value}{x:CA}{pt pv pr:Option Addr}{g:Gram}{cl:List (Option Addr × List (Int × Int))}(hw0:WF N H0)(k0:Kp N H0 n H)(ne:NE H0 nn pt pv pr g cc cl)(hi:InG g)
  (hc:CO H N co nn ys S T vt deep most) (hx:XC H x) (hm:most≤65536) (hdm:deep≤65536) (hxs:x.1.stack.length≤131072) (hr0:0≤x.1.rule) (hr1:x.1.rule<g.rules.length) :
  GivesX Tryz.prog (fun z=>N≤z) 66 [.pointer (some ⟨co,0,none⟩),.agg (ccell x).toArray] n H fun v n' H'=>SpK H H' ∧
   ∃b S' T',v=.bool b∧Comes deep most S T (backL g (cl.map (·.2)) x.1) b S' T'∧(b=true→∃ys' vt',CO H' N co nn ys' S' T' vt' deep most):=by
 have hw:=k0.wf hw0
 have hN:=k0.le
 refine GivesX.of orders ok66 (Nat.le_of_ble_eq_true rfl) ?_
 have v1:∀s,vcells (.agg (ccell s).toArray)=ccell s:=fun _=>rfl
 have v2:∀s,(ccell s).all one=true:=fun _=>rfl
 have v4:∀s,(ccell s)[3]? = some (.slice s.2 s.1.stack.length s.1.stack.length):=fun _=>rfl
 have v0:∀s,(ccell s)[0]? = some (.int .i64 s.1.alt):=fun _=>rfl
 have v3:∀s,(ccell s)[1]? = some (.int .i64 s.1.rule):=fun _=>rfl
 have v5:∀s,(ccell s).length=4:=fun _=>rfl
 have k1:=Kp.new n H (.cells (ccell x) 82 true)
 have hb:=hset_at H n (.cells (ccell x) 82 true)
 have sp1:=Kp.spk hw k1
 have hc1:=hc.kp hw k1
 have k01:=k0.trans k1
 repeat refine qqn rfl ?_
 (refine qqr ?_;simp only[SS,qx6,vun,simprocAttr,abox,v1,v2,ff_66])
 generalize hset H n (.cells (ccell x) 82 true)=H1 at *
 have hw1:=k1.wf hw
 have hx1:=hx.keep sp1
 rcases List.eq_nil_or_concat x.1.stack with hs|⟨st,s,hs⟩
 ·have hsl:x.1.stack.length=0:=by rw[hs];rfl
  have h0:((0:Int)<(x.1.stack.length:Int))=False:=eq_false (by omega)
  obtain⟨r,hr⟩:∃r:Nat,x.1.rule=r:=⟨x.1.rule.toNat,by omega⟩
  have hrl:r<g.rules.length:=by omega
  have ne1:=ne.mono hw0 k01
  obtain⟨z,kz,ds,tz,oz,pp,hpr,hz,d0,d1,d2,_⟩:=ne1.rls.at hrl
  have hl0:=hi.left0 _ (List.getElem_mem hrl)
  have hl1:=hi.left1 _ (List.getElem_mem hrl)
  have hbl:backL g (cl.map (·.2)) x.1=(if g.rules[r].left=0 then [⟨x.1.alt,-1,0,[]⟩] else [])++((cl.map (·.2)).getD g.rules[r].left.toNat []).map fun s=>⟨x.1.alt,s.1,s.2,[]⟩:=by
   unfold backL
   rw[hs,hr,Int.toNat_natCast,List.getElem?_eq_getElem hrl]
   rfl
  rw[hbl]
  generalize g.rules[r].left=lf at *
  obtain⟨l,rfl⟩:=Int.eq_ofNat_of_zero_le hl0
  have hlc:l<cl.length:=by have:=ne.len;omega
  have hgl:((cl.map (·.2)).getD ((l:Nat):Int).toNat [])=cl[l].2:=by
   rw[Int.toNat_natCast,List.getD_eq_getElem?_getD,List.getElem?_map,List.getElem?_eq_getElem hlc];rfl
  rw[hgl]
  have hcm:=List.getElem_mem hlc
  have hcon:=live_lt hw (live_of hc.obj)
  have haway:Away n ys S vt:=by
   refine⟨fun hne e=>?_,fun k m c e=>?_⟩
   ·obtain⟨cs,h1,_⟩:=hc.seen hne
    have:=live_lt hw (live_of h1);omega
   ·rcases hc.todo with⟨e1,_⟩|⟨yt,cs,e1,_,e3,_⟩
    ·rw[e1]at e;cases e
    ·rw[e1]at e;cases e
     have:=live_lt hw (live_of e3);omega
  have hnet:=ne1.net
  rw[hpr]at hnet
  repeat refine qqn rfl ?_
  (refine qqr ?_;simp only[SS,qx6,vun,simprocAttr,hb,v4,v5,ff_66])
  repeat refine qqn rfl ?_
  (refine qqr ?_;simp only[SS,qx6,vun,simprocAttr,h0,ff_66])
  repeat refine qqn rfl ?_
  refine qqm rfl ?_
  repeat refine qqn rfl ?_
  (refine qqr ?_;simp only[SS,qx6,vun,simprocAttr,hb,v3,v5,hc1.obj,hnet,hr,hrl,hz,d0,aop_nc,tnc,ff_66])
  apply WK.skipSeq
  apply WK.seq
  refine WK.cutRet (fun s=>∃S1 T1 ys1 vt1,Kx (fun z=>N≤z) n H s.n s.H∧SpK H s.H∧CO s.H N co nn ys1 S1 T1 vt1 deep most∧Away n ys1 S1 vt1∧Comes deep most S T (if((l:Nat):Int)=0 then [⟨x.1.alt,-1,0,[]⟩] else []) true S1 T1∧s.H n=.cells (ccell x) 82 true∧n<s.n ∧
   s.f 0=.pointer (some ⟨co,0,none⟩)∧s.f 3=.pointer (some ⟨n,0,none⟩)∧s.f 6=.int .i64 (l:Nat)) ?_ ?_
  ·by_cases hl:((l:Nat):Int)=0
   ·have hcm2:=come_gives (x:=(⟨x.1.alt,-1,0,[]⟩,none)) hw1 hc1 ⟨.inl ⟨rfl,rfl⟩,fun z k e=>by cases e⟩ (by omega) hm hdm (by simp)
    repeat refine qqn rfl ?_
    (refine qqr ?_;simp only[SS,qx6,vun,simprocAttr,hl,hb,v0,v5,decide_true,ff_66])
    refine AtCall.byX hcm2 ?_
    rintro v n3 H3 k3 ⟨sp3,hst3,hres⟩
    have hle3:=k3.le
    rcases hres with⟨rfl,hbad⟩|⟨rfl,ys',S',T',vt',hco,haw,hcome⟩
    ·simp only[SS,qx6,vun,simprocAttr,Bool.not_false,ff_66]
     repeat (first|refine qqm rfl ?_|((first|refine qqr ?_|refine qqt ?_);simp only[SS,qx6,vun,simprocAttr,ff_66]))
     refine WK.retNil (.inr ⟨rfl,Or.inr rfl,_,rfl,(k1.kx.trans k3).keep,?_⟩)
     simp only[packed,qv,Nat.reduceEqDiff,↓reduceIte,ff_66]
     exact⟨sp1.trans sp3,false,S,T,rfl,.fail hbad,fun e=>by cases e⟩
    ·simp only[SS,qx6,vun,simprocAttr,Bool.not_true,ff_66]
     repeat (first|refine qqm rfl ?_|((first|refine qqr ?_|refine qqt ?_);simp only[SS,qx6,vun,simprocAttr,ff_66]))
     refine WK.skipNil (.inl ⟨rfl,S',T',ys',vt',k1.kx.trans k3,sp1.trans sp3,hco,haw n (by omega) haway,.cons hcome (.nil _ _),?_,?_,?_,?_,?_⟩)
     ·exact(hst3 n (by omega) (by omega) haway).trans hb
     ·show n<n3;omega
     ·simp only[packed,qv,Nat.reduceEqDiff,↓reduceIte,ff_66]
     ·simp only[packed,qv,Nat.reduceEqDiff,↓reduceIte,ff_66]
     ·simp only[packed,qv,Nat.reduceEqDiff,↓reduceIte,hl,ff_66]
   ·repeat refine qqn rfl ?_
    (refine qqr ?_;simp only[SS,qx6,vun,simprocAttr,hl,decide_false,ff_66])
    repeat (first|refine qqm rfl ?_|((first|refine qqr ?_|refine qqt ?_);simp only[SS,qx6,vun,simprocAttr,ff_66]))
    refine WK.skipNil (.inl ⟨rfl,S,T,ys,vt,k1.kx,sp1,hc1,haway,.nil _ _,hb,Nat.lt_succ_self n,?_,?_,?_⟩)
    ·simp only[packed,qv,Nat.reduceEqDiff,↓reduceIte,ff_66]
    ·simp only[packed,qv,Nat.reduceEqDiff,↓reduceIte,ff_66]
    ·simp only[packed,qv,Nat.reduceEqDiff,↓reduceIte,ff_66]
  ·rintro⟨f,n2,H2⟩ ⟨S1,T1,ys1,vt1,k2,sp2,hc2,ha2,hcs2,hb2,hn2,f0,f3,f6⟩
   simp only at k2 sp2 hc2 ha2 hcs2 hb2 hn2 f0 f3 f6
   have k02:Kp N H0 n2 H2:=((k0.kx (X:=fun z=>N≤z)).trans k2).kp fun q h1 h2=>by omega
   have hw2:=k02.wf hw0
   have ne2:=ne.mono hw0 k02
   have hrow:(cl.map fun x=>Value.slice x.1 x.2.length x.2.length)[l]? = some (.slice cl[l].1 cl[l].2.length cl[l].2.length):=by
    rw[List.getElem?_map,List.getElem?_eq_getElem hlc];rfl
   have hbig:=ne.big _ hcm
   have hlrow:l<(cl.map fun x=>Value.slice x.1 x.2.length x.2.length).length:=by rw[List.length_map];exact hlc
   repeat (first|refine qqm rfl ?_|((first|refine qqr ?_|refine qqt ?_);simp only[SS,qx6,vun,simprocAttr,f0,f6,hc2.obj,ne2.net,ne2.row,hrow,hlrow,hlc,aop_nc,tnc,ff_66]))
   have hst:=ne.st _ hcm
   generalize hQ:cl[l]=Q at *
   have v7:∀a b s,AM.splice [a,b] 0 (spC s)=spC s:=fun _ _ _=>rfl
   have v6:∀s,((spC s).drop 0).take 2=spC s:=fun _=>rfl
   have v9:∀a b c d s,AM.splice [a,b,c,d] 1 (spC s)=[a,.int .i64 s.1,.int .i64 s.2,d]:=fun _ _ _ _ _=>rfl
   have v10:∀s,vcells (.agg (spC s).toArray)=spC s:=fun _=>rfl
   have v11:∀s,(spC s).length=2:=fun _=>rfl
   have v12:∀s,(spC s).all one=true:=fun _=>rfl
   refine WK.loop (fun kk s=>∃(i:Nat) (S3 T3:List CA) (ys3:Nat) (vt3:Value),Kx (fun z=>N≤z) n H s.n s.H∧SpK H s.H∧CO s.H N co nn ys3 S3 T3 vt3 deep most∧Away n ys3 S3 vt3∧Comes deep most S T ((if((l:Nat):Int)=0 then [⟨x.1.alt,-1,0,[]⟩] else [])++(Q.2.take i).map fun s=>⟨x.1.alt,s.1,s.2,[]⟩) true S3 T3 ∧
    s.H n=.cells (ccell x) 82 true∧n<s.n∧s.f 0=.pointer (some ⟨co,0,none⟩)∧s.f 3=.pointer (some ⟨n,0,none⟩)∧s.f 65=.slice Q.1 Q.2.length Q.2.length∧s.f 66=.int .i64 (Q.2.length:Nat)∧s.f 67=.int .i64 (i:Nat)∧i≤Q.2.length∧kk=Q.2.length - i) Q.2.length ?_ ?_
   ·exact⟨0,S1,T1,ys1,vt1,k2,sp2,hc2,ha2,by rw[List.take_zero,List.map_nil,List.append_nil];exact hcs2,hb2,hn2,f0,f3,rfl,rfl,rfl,Nat.zero_le _,rfl⟩
   clear f0 f3 f6
   rintro kk ⟨f,n3,H3⟩ ⟨i,S3,T3,ys3,vt3,k3,sp3,hc3,ha3,hcs3,hb3,hn3,f0,f3,f65,f66,f67,hiQ,rfl⟩ ih
   simp only at k3 sp3 hc3 ha3 hb3 hn3 f0 f3 f65 f66 f67 ih
   have k03:Kp N H0 n3 H3:=((k0.kx (X:=fun z=>N≤z)).trans k3).kp fun q h1 h2=>by omega
   have hw3:=k03.wf hw0
   by_cases hlt:i<Q.2.length
   ·have hiw:IntKind.i64.wrap ((i:Int)+1)=((i+1:Nat):Int):=by rw[wrap_in (by omega) (by omega)];rfl
    have hst3:=hst.keep (Kp.spk hw0 k03)
    obtain⟨z3,kz3,c3,t3,o3,hp3,hz3,e3,l3⟩:=hst3.1.at spC_len hlt
    simp only at hp3 e3
    rw[hp3]at f65
    have htk:Q.2.take (i+1)=Q.2.take i++[Q.2[i]]:=List.take_succ_eq_append_getElem hlt
    generalize Q.2[i]=s at *
    have k4:=Kp.new n3 H3 (.cells (spC s) 75 true)
    have h4:=hset_at H3 n3 (.cells (spC s) 75 true)
    have hb4:=(k4.keep n hn3).trans hb3
    have hcm2:=come_gives (x:=(⟨x.1.alt,s.1,s.2,[]⟩,none)) (k4.wf hw3) (hc3.kp hw3 k4) ⟨.inl ⟨rfl,rfl⟩,fun z k e=>by cases e⟩ (by have:=k03.le;omega) hm hdm (by simp)
    have sp4:=sp3.trans (Kp.spk hw3 k4)
    have hcon3:=live_lt hw3 (live_of hc3.obj)
    repeat refine qqn rfl ?_
    (refine qqr ?_;simp only[SS,qx6,vun,simprocAttr,f65,f66,f67,hlt,ff_66])
    repeat refine qqn rfl ?_
    refine qqm rfl ?_
    repeat refine qqn rfl ?_
    (refine qqr ?_;simp only[SS,qx6,vun,simprocAttr,f65,f67,hlt,hz3,e3,l3,v6,v7,v10,v11,v12,ff_66])
    generalize hset H3 n3 (.cells (spC s) 75 true)=H4 at *
    repeat (first|refine qqm rfl ?_|((first|refine qqr ?_|refine qqt ?_);simp only[SS,qx6,vun,simprocAttr,f0,f3,h4,hb4,v0,v5,v6,v9,v10,v11,v12,ff_66]))
    refine AtCall.byX hcm2 ?_
    rintro v n5 H5 k5 ⟨sp5,hst5,hres⟩
    have hle5:=k5.le
    rcases hres with⟨rfl,hbad⟩|⟨rfl,ys',S',T',vt',hco,haw,hcome⟩
    ·simp only[SS,qx6,vun,simprocAttr,Bool.not_false,ff_66]
     repeat (first|refine qqm rfl ?_|((first|refine qqr ?_|refine qqt ?_);simp only[SS,qx6,vun,simprocAttr,ff_66]))
     first|refine qqf ?_ ?_|refine qqg ?_ ?_
     ·exact((k3.trans k4.kx).trans k5).keep
     ·simp only[packed,qv,Nat.reduceEqDiff,↓reduceIte,ff_66]
      refine⟨sp4.trans sp5,false,S3,T3,rfl,?_,fun e=>by cases e⟩
      have hsp:Q.2=Q.2.take i++s::Q.2.drop (i+1):=by
       conv=>lhs;rw[←List.take_append_drop (i+1) Q.2,htk]
       simp
      rw[hsp,List.map_append,←List.append_assoc]
      exact hcs3.app rfl (.fail hbad)
    ·simp only[SS,qx6,vun,simprocAttr,Bool.not_true,ff_66]
     repeat (first|refine qqm rfl ?_|((first|refine qqr ?_|refine qqt ?_);simp only[SS,qx6,vun,simprocAttr,f67,hiw,ff_66]))
     exact ih (Q.2.length - (i+1)) (by omega) _ ⟨i+1,S',T',ys',vt',(k3.trans k4.kx).trans k5,sp4.trans sp5,hco,haw n (by omega) ha3,by rw[htk,List.map_append,←List.append_assoc];exact hcs3.app rfl (.cons hcome (.nil _ _)),(hst5 n (by omega) (by omega) ha3).trans hb4,by show n<n5;omega,f0,f3,by rw[hp3];exact f65,f66,rfl,hlt,rfl⟩
   ·rw[List.take_of_length_le (by omega)]at hcs3
    repeat (first|refine qqm rfl ?_|((first|refine qqr ?_|refine qqt ?_);simp only[SS,qx6,vun,simprocAttr,f65,f66,f67,hlt,ff_66]))
    first|refine qqf ?_ ?_|refine qqg ?_ ?_
    ·exact k3.keep
    ·simp only[packed,qv,Nat.reduceEqDiff,↓reduceIte,ff_66]
     exact⟨sp3,true,S3,T3,rfl,hcs3,fun _=>⟨ys3,vt3,hc3⟩⟩
 ·have hsl:x.1.stack.length=st.length+1:=by rw[hs];simp
  have h0:(0:Int)<(x.1.stack.length:Int):=by omega
  have hkw:IntKind.i64.wrap ((x.1.stack.length:Int) - 1)=(st.length:Int):=by rw[hsl,wrap_in (by omega) (by omega)];omega
  have hlt:st.length<x.1.stack.length:=by omega
  have hle:st.length≤x.1.stack.length:=by omega
  obtain⟨z,kz,cs,tz,oz,hp,hz,ez,lz⟩:=hx1.1.at spC_len hlt
  have hst:x.1.stack[st.length]=s:=by simp[hs]
  rw[hst]at ez
  obtain⟨cs',own',hz'⟩:=hx1.2 z kz hp
  rw[hz]at hz'
  cases hz'
  have hp4:(ccell x)[3]? = some (.slice (some ⟨z,kz,none⟩) x.1.stack.length x.1.stack.length):=by rw[v4,hp]
  repeat refine qqn rfl ?_
  (refine qqr ?_;simp only[SS,qx6,vun,simprocAttr,hb,v4,v5,hp4,ff_66])
  repeat refine qqn rfl ?_
  (refine qqr ?_;simp only[SS,qx6,vun,simprocAttr,h0,ff_66])
  repeat refine qqn rfl ?_
  refine qqm rfl ?_
  repeat refine qqn rfl ?_
  (refine WK.rgs [true,true,true,true,true,true,true,true,true,true,true,true,true,true,true,true,false] (by kernel_rfl) (by kernel_rfl) ?_;simp only[wz,SS,forall_const,wx,tguard,acallee,top,tval,fput,tor,vsh,vbin,vun,tload,tload2,tload3,tstore,tstore2,tstore3,Go.AM.splice,one,tidx,tidx2,tidx3,tfa,tfa2,tlen2,tlen3,tpick,tbox,talloc,still,still1,flat1,tbuild,afill,tsl,tsl2,tsl3,tsl4,tsl5,Go.AM.bound,simprocAttr,hb,v0,v5,hp4,hkw,hlt,hle,hz,ez,lz,implies_true,Nat.sub_zero,Nat.zero_mul,Nat.add_zero,ff_66])
  have hxp:XC H1 (⟨x.1.alt,s.1,s.2,st⟩,x.2):=by
   have h:=hx1
   obtain⟨⟨a,r,d,l⟩,p⟩:=x
   simp only at hs
   rw[hs,List.concat_eq_append]at h
   exact h.pre
  have hcg:=clone_gives (x:=(⟨x.1.alt,s.1,s.2,st⟩,x.2)) hw1 hxp (by simp only;omega)
  simp only[hp]at hcg
  refine AtCall.by hcg ?_
  rintro v n2 H2 k2 ⟨p',rfl,hown⟩
  have hw2:=k2.wf hw1
  have k12:=k1.trans k2
  have hle2:=k2.le
  have v9:∀a b c d s,AM.splice [a,b,c,d] 1 (spC s)=[a,.int .i64 s.1,.int .i64 s.2,d]:=fun _ _ _ _ _=>rfl
  have v10:∀s,vcells (.agg (spC s).toArray)=spC s:=fun _=>rfl
  have v11:∀s,(spC s).length=2:=fun _=>rfl
  have v12:∀s,(spC s).all one=true:=fun _=>rfl
  have hcm:=come_gives (x:=(⟨x.1.alt,s.1,s.2,st⟩,p')) hw2 (hc1.kp hw1 k2) (hown.xc _ _ _) (by omega) hm hdm (by simp only;omega)
  simp only[SS,qx6,vun,simprocAttr,v9,v10,v11,v12,ff_66]
  refine AtCall.byX hcm ?_
  rintro v n3 H3 k3 ⟨sp3,_,hres⟩
  simp only[SS,qx6,vun,simprocAttr,ff_66]
  repeat (first|refine qqm rfl ?_|((first|refine qqr ?_|refine qqt ?_);simp only[SS,qx6,vun,simprocAttr,ff_66]))
  first|refine qqf ?_ ?_|refine qqg ?_ ?_
  ·exact(k12.kx.trans k3).keep
  ·simp only[packed,qv,Nat.reduceEqDiff,↓reduceIte,ff_66]
   refine⟨(Kp.spk hw k12).trans sp3,?_⟩
   have hbl:backL g (cl.map (·.2)) x.1=[⟨x.1.alt,s.1,s.2,st⟩]:=by
    unfold backL
    rw[hs]
    simp
   rw[hbl]
   rcases hres with⟨rfl,hbad⟩|⟨rfl,ys',S',T',vt',hco,_,hcome⟩
   ·exact⟨false,S,T,rfl,.fail hbad,fun e=>by cases e⟩
   ·exact⟨true,S',T',rfl,.cons hcome (.nil _ _),fun _=>⟨ys',vt',hco⟩⟩
end Go.Proofs.YtjlgpanihjnaeaaGreatDoor
