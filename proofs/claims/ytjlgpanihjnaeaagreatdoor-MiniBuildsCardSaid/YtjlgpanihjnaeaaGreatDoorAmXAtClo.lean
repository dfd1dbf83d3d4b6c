/- A part of a proof. Its conditions: none. -/
import Derived.Test.YtjlgpanihjnaeaaGreatDoorAmXAtStep
import Derived.Test.YtjlgpanihjnaeaaGreatDoorAmXAtCome
import Derived.Test.YtjlgpanihjnaeaaGreatDoorAmXLfRight
set_option linter.all false
namespace Go.Proofs.YtjlgpanihjnaeaaGreatDoor
open Go.AM
set_option maxRecDepth 100000
def ruleIx(g:Gram)(s:Int):List Nat:=(List.range g.rules.length).filter fun i=>decide ((g.rules[i]?).map (·.left)=some s)
def stkL(r:GRule)(c:Cfg):List (Int × Int):=if c.stack=[]∨c.dot+1<(r.right.length:Int) then c.stack++[(c.rule,c.dot+1)] else c.stack
def stepL(g:Gram)(cl:List (List (Int × Int)))(c:Cfg):List Cfg :=
 if c.rule<0 then [] else match g.rules[c.rule.toNat]? with
 | none=>[]
 | some r=>if c.dot=(r.right.length:Int) then backL g cl c else match r.right[c.dot.toNat]? with
  | none=>[]
  | some s=>if 0≤s then(ruleIx g s).map fun i=>⟨c.alt,(i:Nat),0,stkL r c⟩ else []
theorem ruleIx_eq{g:Gram}{s:Int}{a b:Nat}(hab:a≤b)(hb:b≤g.rules.length)(h:∀(i:Nat) (h:i<g.rules.length),g.rules[i].left=s↔a≤i∧i<b):ruleIx g s=List.range' a (b - a):=by
 unfold ruleIx
 have h1:(List.range g.rules.length).filter (fun i=>decide ((g.rules[i]?).map (·.left)=some s))=(List.range g.rules.length).filter fun i=>decide (a≤i∧i<b):=by
  apply List.filter_congr
  intro i hi
  rw[List.mem_range]at hi
  rw[List.getElem?_eq_getElem hi]
  simp only[Option.map_some,Option.some.injEq,decide_eq_decide]
  exact h i hi
 rw[h1]
 have h2:∀n,b≤n→(List.range n).filter (fun i=>decide (a≤i∧i<b))=List.range' a (b - a):=by
  intro n hn
  induction n with
  | zero =>
   have:b=0:=by omega
   subst this
   simp
  | succ n ih =>
   rw[List.range_succ,List.filter_append]
   by_cases e:b≤n
   ·rw[ih e]
    have:¬(n<b):=by omega
    simp[this]
   ·have hbn:b=n+1:=by omega
    subst hbn
    have h3:∀m,m≤n→(List.range m).filter (fun i=>decide (a≤i∧i<n+1))=List.range' a (m - a):=by
     intro m
     induction m with
     | zero=>intro _;simp
     | succ m ihm =>
      intro hm
      rw[List.range_succ,List.filter_append,ihm (by omega)]
      by_cases ha:a≤m
      ·have e1:m+1 - a=(m - a)+1:=by omega
       rw[e1,List.range'_concat]
       simp[ha,show m<n+1 by omega]
      ·have e1:m+1 - a=0:=by omega
       have e2:m - a=0:=by omega
       simp[ha,e1,e2]
    rw[h3 n (Nat.le_refl _)]
    by_cases ha:a≤n
    ·have e1:n+1 - a=(n - a)+1:=by omega
     rw[e1,List.range'_concat]
     simp[ha]
    ·have e1:n+1 - a=0:=by omega
     have e2:n - a=0:=by omega
     simp[ha,e1,e2]
 exact h2 _ hb
set_option maxHeartbeats 16000000 in
theorem step_gives{N co nn ys deep most n cc:Nat}{H0 H:Heap}{S T:List CA}{vt:Value}{x:CA}{pt pv pr:Option Addr}{g:Gram}{cl:List (Option Addr × List (Int × Int))}(hw0:WF N H0)(k0:Kp N H0 n H)(ne:NE H0 nn pt pv pr g cc cl)(ok:RightOK g)
  (hc:CO H N co nn ys S T vt deep most) (hx:XC H x) (hm:most≤65536) (hdm:deep≤65536) (hxs:x.1.stack.length≤65536) (hr1:x.1.rule<g.rules.length) (hd:∀r,0≤x.1.rule→g.rules[x.1.rule.toNat]? = some r→0≤x.1.dot∧x.1.dot≤r.right.length) :
  GivesX Tryz.prog (fun z=>N≤z) 47 [.pointer (some ⟨co,0,none⟩),.agg (ccell x).toArray] n H fun v n' H'=>SpK H H' ∧
   ∃b S' T',v=.bool b∧Comes deep most S T (stepL g (cl.map (·.2)) x.1) b S' T'∧(b=true→∃ys' vt',CO H' N co nn ys' S' T' vt' deep most):=by
 have hw:=k0.wf hw0
 have hN:=k0.le
 have hi:=ok.inG
 refine GivesX.of orders ok47 (Nat.le_of_ble_eq_true rfl) ?_
 have v1:∀s,vcells (.agg (ccell s).toArray)=ccell s:=fun _=>rfl
 have v2:∀s,(ccell s).all one=true:=fun _=>rfl
 have v4:∀s,(ccell s)[3]? = some (.slice s.2 s.1.stack.length s.1.stack.length):=fun _=>rfl
 have v0:∀s,(ccell s)[0]? = some (.int .i64 s.1.alt):=fun _=>rfl
 have v3:∀s,(ccell s)[1]? = some (.int .i64 s.1.rule):=fun _=>rfl
 have v8:∀s,(ccell s)[2]? = some (.int .i64 s.1.dot):=fun _=>rfl
 have v5:∀s,(ccell s).length=4:=fun _=>rfl
 have v6:∀s,((ccell s).drop 0).take 4=ccell s:=fun _=>rfl
 have k1:=Kp.new n H (.cells (ccell x) 82 true)
 have hb:=hset_at H n (.cells (ccell x) 82 true)
 have sp1:=Kp.spk hw k1
 have hc1:=hc.kp hw k1
 have k01:=k0.trans k1
 repeat refine qqn rfl ?_
 (refine qqr ?_;simp only[SS,qx7,vun,simprocAttr,abox,v1,v2,ff_47])
 generalize hset H n (.cells (ccell x) 82 true)=H1 at *
 have hw1:=k1.wf hw
 have hx1:=hx.keep sp1
 by_cases hneg:x.1.rule<0
 ·repeat (first|refine qqm rfl ?_|((first|refine qqr ?_|refine qqt ?_);simp only[SS,qx7,vun,simprocAttr,hb,v3,v5,hneg,ff_47]))
  first|refine qqf ?_ ?_|refine qqg ?_ ?_
  ·exact k1.kx.keep
  ·simp only[packed,qv,Nat.reduceEqDiff,↓reduceIte,ff_47]
   have hsl:stepL g (cl.map (·.2)) x.1=[]:=by unfold stepL;rw[if_pos hneg]
   rw[hsl]
   exact⟨sp1,true,S,T,rfl,.nil _ _,fun _=>⟨ys,vt,hc1⟩⟩
 obtain⟨r,hr⟩:∃r:Nat,x.1.rule=r:=⟨x.1.rule.toNat,by omega⟩
 have hneg':(((r:Nat):Int)<0)=False:=eq_false (by omega)
 have hrl:r<g.rules.length:=by omega
 have hrg:g.rules[x.1.rule.toNat]? = some g.rules[r]:=by rw[hr,Int.toNat_natCast,List.getElem?_eq_getElem hrl]
 obtain⟨hd0,hd1⟩:=hd _ (by omega) hrg
 have ne1:=ne.mono hw0 k01
 obtain⟨z,kz,ds,tz,oz,pp,hpr,hz,d0,d1,d2,hpp⟩:=ne1.rls.at hrl
 have hmem:=List.getElem_mem hrl
 have hri:=hi.right _ hmem
 have hrl24:=(ok.rule r hrl).len
 have hnet:=ne1.net
 rw[hpr]at hnet
 have hsl:stepL g (cl.map (·.2)) x.1=if x.1.dot=(g.rules[r].right.length:Int) then backL g (cl.map (·.2)) x.1 else match g.rules[r].right[x.1.dot.toNat]? with
  | none=>[]
  | some s=>if 0≤s then(ruleIx g s).map fun i=>⟨x.1.alt,(i:Nat),0,stkL g.rules[r] x.1⟩ else []:=by
  unfold stepL
  rw[if_neg hneg,hrg]
 rw[hsl]
 generalize g.rules[r]=ru at *
 obtain⟨dt,hdt⟩:∃dt:Nat,x.1.dot=dt:=⟨x.1.dot.toNat,by omega⟩
 by_cases hend:dt=ru.right.length
 ·have hend':x.1.dot=(ru.right.length:Int):=by omega
  rw[if_pos hend']
  have hbg:=back_gives hw0 k01 ne hi hc1 hx1 hm hdm (by omega) (by omega) hr1
  repeat (first|refine qqm rfl ?_|((first|refine qqr ?_|refine qqt ?_);simp only[SS,qx7,vun,simprocAttr,hb,v3,v4,v5,v6,v8,hc1.obj,hnet,hneg',hr,hrl,hz,d1,hend',aop_nc,tnc,decide_true,ff_47]))
  refine AtCall.byX hbg ?_
  rintro v n2 H2 k2 ⟨sp2,b,S',T',rfl,hcs,hco⟩
  simp only[SS,qx7,vun,simprocAttr,ff_47]
  repeat (first|refine qqm rfl ?_|((first|refine qqr ?_|refine qqt ?_);simp only[SS,qx7,vun,simprocAttr,ff_47]))
  first|refine qqf ?_ ?_|refine qqg ?_ ?_
  ·exact(k1.kx.trans k2).keep
  ·simp only[packed,qv,Nat.reduceEqDiff,↓reduceIte,ff_47]
   exact⟨sp1.trans sp2,b,S',T',rfl,hcs,hco⟩
 ·have hend':¬x.1.dot=(ru.right.length:Int):=by omega
  have hdl:dt<ru.right.length:=by omega
  obtain⟨z4,kz4,c4,t4,o4,hp4,hz4,e4⟩:=hpp.at hdl
  rw[if_neg hend',hdt,Int.toNat_natCast,List.getElem?_eq_getElem hdl]
  have hend2:((dt:Int)=(ru.right.length:Int))=False:=eq_false (by omega)
  have hsm:=List.getElem_mem hdl
  have hsv:=hri _ hsm
  rw[hp4]at d1
  have hd4:(ccell x)[2]? = some (.int .i64 (dt:Nat)):=by rw[v8,hdt]
  repeat (first|refine qqm rfl ?_|((first|refine qqr ?_|refine qqt ?_);simp only[SS,qx7,vun,simprocAttr,hb,v3,v4,v5,v6,hd4,hc1.obj,hnet,hneg',hr,hrl,hz,d1,hend2,hdl,hz4,e4,aop_nc,tnc,decide_false,ff_47]))
  refine AtCall.by (isVar_gives _ _ _) ?_
  rintro v n2 H2 k2 ⟨rfl,rfl,hH⟩
  obtain rfl:=hH.symm
  clear k2
  have h00:(((0:Nat):Int)=0)=True:=eq_true rfl
  by_cases hvar:0≤ru.right[dt]
  ·rw[if_pos hvar]
   have hcg:=clone_gives hw1 hx1 (by omega)
   have hst':stkL ru x.1=if x.1.stack=[]∨dt+1<ru.right.length then x.1.stack++[(((r:Nat):Int),((dt+1:Nat):Int))] else x.1.stack:=by
    unfold stkL
    rw[hdt,hr]
    have:(((dt:Int)+1<(ru.right.length:Int))↔dt+1<ru.right.length):=by omega
    simp only[this]
    rfl
   generalize ru.right[dt]=s at *
   simp only[SS,qx7,vun,simprocAttr,hvar,decide_true,Bool.not_true,ff_47]
   repeat (first|refine qqm rfl ?_|((first|refine qqr ?_|refine qqt ?_);simp only[SS,qx7,vun,simprocAttr,hb,v4,v5,ff_47]))
   refine AtCall.by hcg ?_
   rintro v n2 H2 k2 ⟨p',rfl,hown⟩
   have hw2:=k2.wf hw1
   have hle2:=k2.le
   have hb2:=(k2.keep n (by omega)).trans hb
   have hdw:IntKind.i64.wrap ((dt:Int)+1)=((dt+1:Nat):Int):=by rw[wrap_in (by omega) (by omega)];rfl
   simp only[SS,qx7,vun,simprocAttr,ff_47]
   apply WK.skipSeq
   apply WK.seq
   refine WK.cut (fun s1=>∃p1,Kp (n+1) H1 s1.n s1.H∧OwnS s1.H n p1 (stkL ru x.1)∧s1.f 7=.slice p1 (stkL ru x.1).length (stkL ru x.1).length∧s1.f 0=.pointer (some ⟨co,0,none⟩)∧s1.f 3=.pointer (some ⟨n,0,none⟩)∧s1.f 6=.int .i64 s) ?_ ?_
   ·have hd4':(ccell x)[2]? = some (.int .i64 (dt:Nat)):=hd4
    rw[hst']
    have hll:(x.1.stack++[(((r:Nat):Int),((dt+1:Nat):Int))]).length=x.1.stack.length+1:=by simp
    have hfl:(x.1.stack++[(((r:Nat):Int),((dt+1:Nat):Int))]).flatMap spC=x.1.stack.flatMap spC++[.int .i64 (r:Nat),.int .i64 ((dt+1:Nat):Int)]:=by rw[List.flatMap_append,List.flatMap_singleton];rfl
    have bl:x.1.stack.length+1≤bigN:=by unfold bigN;omega
    by_cases hnil:x.1.stack=[]
    ·rw[if_pos (.inl hnil)]
     have hl0:x.1.stack.length=0:=by rw[hnil];rfl
     repeat refine qqn rfl ?_
     (refine qqr ?_;simp only[SS,qx7,vun,simprocAttr,hl0,h00,decide_true,ff_47])
     repeat refine qqn rfl ?_
     refine qqm rfl ?_
     repeat refine qqn rfl ?_
     rcases hown with⟨rfl,_⟩|⟨zo,rfl,hzo,hzc⟩
     ·repeat (first|refine qqm rfl ?_|((first|refine qqr ?_|refine qqt ?_);simp only[SS,qx7,vun,simprocAttr,hl0,hb2,v3,hd4',hr,v5,hdw,hset_at,List.length_nil,ff_47]))
      refine WK.skipNil ⟨rfl,some ⟨n2+1,0,none⟩,(k2.trans (Kp.new n2 _ _)).trans (Kp.new (n2+1) _ _),.inr ⟨n2+1,rfl,by omega,(hset_at _ _ _).trans (by rw[hfl,hnil];rfl)⟩,?_,?_,?_,?_⟩
      ·rw[hll,hl0]
       simp only[packed,qv,Nat.reduceEqDiff,↓reduceIte,ff_47]
      ·simp only[packed,qv,Nat.reduceEqDiff,↓reduceIte,ff_47]
      ·simp only[packed,qv,Nat.reduceEqDiff,↓reduceIte,ff_47]
      ·simp only[packed,qv,Nat.reduceEqDiff,↓reduceIte,ff_47]
     ·have hzn:=live_lt hw2 (live_of hzc)
      rw[hnil]at hzc
      have hct:[n2].contains zo=false:=by simp;omega
      have b1:1≤bigN:=by unfold bigN;omega
      repeat (first|refine qqm rfl ?_|((first|refine qqr ?_|refine qqt ?_);simp only[SS,qx7,vun,simprocAttr,hl0,hb2,v3,hd4',hr,v5,hdw,b1,hset_at,hzc,hct,(hset_ne H2 n2 · (show zo≠n2 by omega)),List.flatMap_nil,List.length_nil,List.take_nil,List.drop_nil,List.nil_append,Nat.zero_le,Nat.le_refl,Nat.zero_mul,Nat.zero_add,ff_47]))
      refine WK.skipNil ⟨rfl,some ⟨n2+1,0,none⟩,((k2.trans (Kp.new n2 _ _)).set (x:=zo) .dead hzo (by omega)).trans (Kp.new (n2+1) _ _),.inr ⟨n2+1,rfl,by omega,(hset_at _ _ _).trans (by rw[hfl,hnil];rfl)⟩,?_,?_,?_,?_⟩
      ·rw[hll,hl0]
       simp only[packed,qv,Nat.reduceEqDiff,↓reduceIte,ff_47]
      ·simp only[packed,qv,Nat.reduceEqDiff,↓reduceIte,ff_47]
      ·simp only[packed,qv,Nat.reduceEqDiff,↓reduceIte,ff_47]
      ·simp only[packed,qv,Nat.reduceEqDiff,↓reduceIte,ff_47]
    ·have hl0:x.1.stack.length≠0:=fun e=>hnil (List.eq_nil_of_length_eq_zero e)
     have hl0':((x.1.stack.length:Int)=0)=False:=eq_false (by omega)
     rcases hown with⟨rfl,e⟩|⟨zo,rfl,hzo,hzc⟩
     ·exact absurd e hnil
     have hzn:=live_lt hw2 (live_of hzc)
     have hct:[n2].contains zo=false:=by simp;omega
     have hfl2:(x.1.stack.flatMap spC).length=x.1.stack.length*2:=fm_len spC_len _
     have htk2:(x.1.stack.flatMap spC).take (x.1.stack.length*2)=x.1.stack.flatMap spC:=List.take_of_length_le (by rw[hfl2];exact Nat.le_refl _)
     have v12:∀a b:Value,List.take 2 [a,b]=[a,b]:=fun _ _=>rfl
     by_cases hcd:dt+1<ru.right.length
     ·rw[if_pos (.inr hcd)]
      have hcd':(((dt+1:Nat):Int)<(ru.right.length:Int))=True:=eq_true (by omega)
      repeat (first|refine qqm rfl ?_|((first|refine qqr ?_|refine qqt ?_);simp only[SS,qx7,vun,simprocAttr,hl0',hb2,v3,hd4',hr,v5,hdw,hcd,hcd',bl,hset_at,hzc,hct,hfl2,htk2,v12,(hset_ne H2 n2 · (show zo≠n2 by omega)),List.drop_zero,Nat.le_refl,decide_true,decide_false,ff_47]))
      refine WK.skipNil ⟨rfl,some ⟨n2+1,0,none⟩,((k2.trans (Kp.new n2 _ _)).set (x:=zo) .dead hzo (by omega)).trans (Kp.new (n2+1) _ _),.inr ⟨n2+1,rfl,by omega,(hset_at _ _ _).trans (by rw[hfl])⟩,?_,?_,?_,?_⟩
      ·rw[hll]
       simp only[packed,qv,Nat.reduceEqDiff,↓reduceIte,ff_47]
      ·simp only[packed,qv,Nat.reduceEqDiff,↓reduceIte,ff_47]
      ·simp only[packed,qv,Nat.reduceEqDiff,↓reduceIte,ff_47]
      ·simp only[packed,qv,Nat.reduceEqDiff,↓reduceIte,ff_47]
     ·rw[if_neg (fun h=>h.elim hnil hcd)]
      have hcd':(((dt+1:Nat):Int)<(ru.right.length:Int))=False:=eq_false (by omega)
      repeat (first|refine qqm rfl ?_|((first|refine qqr ?_|refine qqt ?_);simp only[SS,qx7,vun,simprocAttr,hl0',hb2,v3,hd4',hr,v5,hdw,hcd,hcd',decide_true,decide_false,ff_47]))
      refine WK.skipNil ⟨rfl,some ⟨zo,0,none⟩,k2,.inr ⟨zo,rfl,by omega,hzc⟩,?_,?_,?_,?_⟩
      ·simp only[packed,qv,Nat.reduceEqDiff,↓reduceIte,ff_47]
      ·simp only[packed,qv,Nat.reduceEqDiff,↓reduceIte,ff_47]
      ·simp only[packed,qv,Nat.reduceEqDiff,↓reduceIte,ff_47]
      ·simp only[packed,qv,Nat.reduceEqDiff,↓reduceIte,ff_47]
   ·rintro⟨f,n3,H3⟩ ⟨p1,k3,hown3,f7,f0,f3,f6⟩
    simp only at k3 hown3 f7 f0 f3 f6
    have k13:=k1.trans k3
    have hw3:=k13.wf hw
    have hle3:=k3.le
    have hc3:=hc1.kp hw1 k3
    have k03:=k0.trans k13
    have ne3:=ne.mono hw0 k03
    have hb3:=(k3.keep n (by omega)).trans hb
    have hg3:RG H3 (.agg (gcells pt pv pr g).toArray) g:=⟨_,_,_,rfl,ne3.tms,ne3.vrs,ne3.rls⟩
    have v13:∀a b c d:Value,([a,b,c,d].drop 0).take 3=[a,b,c]:=fun _ _ _ _=>rfl
    have hgc:Value.agg (gcells pt pv pr g).toArray=.agg #[.slice pt g.terms.length g.terms.length,.slice pv g.vars.length g.vars.length,.slice pr g.rules.length g.rules.length]:=rfl
    have hrg2:=rules_gives (v:=s) hw3 hg3 ok
    rw[hgc]at hrg2
    generalize hSL:stkL ru x.1=SL at *
    repeat (first|refine qqm rfl ?_|((first|refine qqr ?_|refine qqt ?_);simp only[SS,qx7,vun,simprocAttr,f0,f6,hc3.obj,ne3.net,v13,aop_nc,tnc,ff_47]))
    refine AtCall.by hrg2 ?_
    rintro v n4 H4 k4 ⟨a,b,rfl,hab,hbl,hix⟩
    rw[ruleIx_eq hab hbl hix]
    have k14:=k13.trans k4
    have hw4:=k14.wf hw
    have hle4:=k4.le
    have hb4:=(k4.keep n (by omega)).trans hb3
    have hc4:=hc3.kp hw3 k4
    have hx4:XC H4 (⟨0,0,0,SL⟩,p1):=(hown3.xc 0 0 0).keep (Kp.spk hw3 k4)
    have hSLl:SL.length≤131072:=by
     rw[←hSL];unfold stkL;split
     ·simp;omega
     ·omega
    have haway:Away n ys S vt:=by
     refine⟨fun hne e=>?_,fun k m c e=>?_⟩
     ·obtain⟨cs,h1,_⟩:=hc.seen hne
      have:=live_lt hw (live_of h1);omega
     ·rcases hc.todo with⟨e1,_⟩|⟨yt,cs,e1,_,e3,_⟩
      ·rw[e1]at e;cases e
      ·rw[e1]at e;cases e
       have:=live_lt hw (live_of e3);omega
    have hcon:=live_lt hw (live_of hc.obj)
    have xck:∀{H:Heap} {a r d a' r' d':Int} {l:List (Int × Int)} {p:Option Addr},XC H (⟨a,r,d,l⟩,p)→XC H (⟨a',r',d',l⟩,p):=fun h=>h
    simp only[SS,qx7,vun,simprocAttr,List.toList_toArray,ff_47]
    repeat (first|refine qqm rfl ?_|((first|refine qqr ?_|refine qqt ?_);simp only[SS,qx7,vun,simprocAttr,ff_47]))
    refine WK.loop (fun kk s1=>∃(i:Nat) (S3 T3:List CA) (ys3:Nat) (vt3:Value),Kx (fun z=>N≤z) n H s1.n s1.H∧SpK H s1.H∧CO s1.H N co nn ys3 S3 T3 vt3 deep most∧Away n ys3 S3 vt3∧Comes deep most S T ((List.range' a (i - a)).map fun i=>⟨x.1.alt,(i:Nat),0,SL⟩) true S3 T3∧XC s1.H (⟨0,0,0,SL⟩,p1) ∧
     s1.H n=.cells (ccell x) 82 true∧n<s1.n∧s1.f 0=.pointer (some ⟨co,0,none⟩)∧s1.f 3=.pointer (some ⟨n,0,none⟩)∧s1.f 7=.slice p1 SL.length SL.length∧s1.f 9=.int .i64 (b:Nat)∧s1.f 10=.int .i64 (i:Nat)∧a≤i∧i≤b∧kk=b - i) (b - a) ?_ ?_
    ·exact⟨a,S,T,ys,vt,k14.kx,Kp.spk hw k14,hc4,haway,by rw[Nat.sub_self];exact .nil _ _,hx4,hb4,by show n<n4;omega,f0,f3,f7,rfl,rfl,Nat.le_refl _,hab,rfl⟩
    clear f0 f3 f6 f7
    rintro kk ⟨f,n5,H5⟩ ⟨i,S3,T3,ys3,vt3,k5,sp5,hc5,ha5,hcs5,hx5,hb5,hn5,f0,f3,f7,f9,f10,hai,hib,rfl⟩ ih
    simp only at k5 sp5 hc5 ha5 hx5 hb5 hn5 f0 f3 f7 f9 f10 ih
    have k05:Kp N H0 n5 H5:=((k0.kx (X:=fun z=>N≤z)).trans k5).kp fun q h1 h2=>by omega
    have hw5:=k05.wf hw0
    by_cases hlt:i<b
    ·have hiw:IntKind.i64.wrap ((i:Int)+1)=((i+1:Nat):Int):=by have:=ok.rules;rw[wrap_in (by omega) (by omega)];rfl
     have hcm2:=come_gives (x:=(⟨x.1.alt,((i:Nat):Int),0,SL⟩,p1)) hw5 hc5 (xck hx5) k05.le hm hdm hSLl
     have hran:List.range' a (i+1 - a)=List.range' a (i - a)++[i]:=by
      have e:a+1*(i - a)=i:=by omega
      rw[show i+1 - a=(i - a)+1 by omega,List.range'_concat,e]
     have hrest:List.range' a (b - a)=List.range' a (i - a)++i::List.range' (i+1) (b - (i+1)):=by
      have e:a+(i - a)=i:=by omega
      rw[show b - a=(i - a)+((b - (i+1))+1) by omega,←List.range'_append_1,e,List.range'_succ]
     have hcon5:=live_lt hw5 (live_of hc5.obj)
     repeat (first|refine qqm rfl ?_|((first|refine qqr ?_|refine qqt ?_);simp only[SS,qx7,vun,simprocAttr,f0,f3,f7,f9,f10,hlt,hb5,v0,v5,ff_47]))
     refine AtCall.byX hcm2 ?_
     rintro v n6 H6 k6 ⟨sp6,hst6,hres⟩
     have hle6:=k6.le
     rcases hres with⟨rfl,hbad⟩|⟨rfl,ys',S',T',vt',hco,haw,hcome⟩
     ·simp only[SS,qx7,vun,simprocAttr,Bool.not_false,ff_47]
      repeat (first|refine qqm rfl ?_|((first|refine qqr ?_|refine qqt ?_);simp only[SS,qx7,vun,simprocAttr,ff_47]))
      first|refine qqf ?_ ?_|refine qqg ?_ ?_
      ·exact(k5.trans k6).keep
      ·simp only[packed,qv,Nat.reduceEqDiff,↓reduceIte,ff_47]
       refine⟨sp5.trans sp6,false,S3,T3,rfl,?_,fun e=>by cases e⟩
       rw[hrest,List.map_append]
       exact hcs5.app rfl (.fail hbad)
     ·simp only[SS,qx7,vun,simprocAttr,Bool.not_true,ff_47]
      repeat (first|refine qqm rfl ?_|((first|refine qqr ?_|refine qqt ?_);simp only[SS,qx7,vun,simprocAttr,f10,hiw,ff_47]))
      exact ih (b - (i+1)) (by omega) _ ⟨i+1,S',T',ys',vt',k5.trans k6,sp5.trans sp6,hco,haw n (by omega) ha5,by rw[hran,List.map_append];exact hcs5.app rfl (.cons hcome (.nil _ _)),hx5.keep sp6,(hst6 n (by omega) (by omega) ha5).trans hb5,by show n<n6;omega,f0,f3,f7,f9,rfl,by omega,hlt,rfl⟩
    ·obtain rfl:i=b:=by omega
     repeat (first|refine qqm rfl ?_|((first|refine qqr ?_|refine qqt ?_);simp only[SS,qx7,vun,simprocAttr,f9,f10,Nat.lt_irrefl,Int.lt_irrefl,ff_47]))
     first|refine qqf ?_ ?_|refine qqg ?_ ?_
     ·exact k5.keep
     ·simp only[packed,qv,Nat.reduceEqDiff,↓reduceIte,ff_47]
      exact⟨sp5,true,S3,T3,rfl,hcs5,fun _=>⟨ys3,vt3,hc5⟩⟩
  ·rw[if_neg hvar]
   have hvar':(0≤ru.right[dt])=False:=eq_false hvar
   simp only[SS,qx7,vun,simprocAttr,hvar',decide_false,Bool.not_false,ff_47]
   repeat (first|refine qqm rfl ?_|((first|refine qqr ?_|refine qqt ?_);simp only[SS,qx7,vun,simprocAttr,ff_47]))
   first|refine qqf ?_ ?_|refine qqg ?_ ?_
   ·exact k1.kx.keep
   ·simp only[packed,qv,Nat.reduceEqDiff,↓reduceIte,ff_47]
    exact⟨sp1,true,S,T,rfl,.nil _ _,fun _=>⟨ys,vt,hc1⟩⟩
end Go.Proofs.YtjlgpanihjnaeaaGreatDoor

namespace Go.Proofs.YtjlgpanihjnaeaaGreatDoor
open Go.AM
set_option maxRecDepth 100000
def nextL(g:Gram)(c:Cfg):Int:=if c.rule<0 then -1 else match g.rules[c.rule.toNat]? with
 | none=>-2
 | some r=>if c.dot=(r.right.length:Int) then -2 else match r.right[c.dot.toNat]? with
  | none=>-2
  | some s=>if 0≤s then -2 else -s - 1
set_option maxHeartbeats 8000000 in
theorem next_gives{N nn n cc:Nat}{H0 H:Heap}{x:CA}{pt pv pr:Option Addr}{g:Gram}{cl:List (Option Addr × List (Int × Int))}(hw0:WF N H0)(k0:Kp N H0 n H)(ne:NE H0 nn pt pv pr g cc cl)(hi:InG g)(hgl:g.terms.length≤64∧g.vars.length≤64)
  (hlen:∀r∈g.rules,r.right.length≤24) (hr1:x.1.rule<g.rules.length) (hd:∀r,0≤x.1.rule→g.rules[x.1.rule.toNat]? = some r→0≤x.1.dot∧x.1.dot≤r.right.length) :
  Gives Tryz.prog 50 [.pointer (some ⟨nn,0,none⟩),.agg (ccell x).toArray] n H fun v _ _=>v=.int .i64 (nextL g x.1):=by
 have hw:=k0.wf hw0
 have hN:=k0.le
 refine Gives.of orders ok50 (Nat.le_of_ble_eq_true rfl) ?_
 have v1:∀s,vcells (.agg (ccell s).toArray)=ccell s:=fun _=>rfl
 have v2:∀s,(ccell s).all one=true:=fun _=>rfl
 have v3:∀s,(ccell s)[1]? = some (.int .i64 s.1.rule):=fun _=>rfl
 have v8:∀s,(ccell s)[2]? = some (.int .i64 s.1.dot):=fun _=>rfl
 have v5:∀s,(ccell s).length=4:=fun _=>rfl
 have k1:=Kp.new n H (.cells (ccell x) 82 true)
 have hb:=hset_at H n (.cells (ccell x) 82 true)
 have k01:=k0.trans k1
 repeat refine qqn rfl ?_
 (refine qqr ?_;simp only[SS,qx0,vun,simprocAttr,abox,v1,v2,ff_50])
 generalize hset H n (.cells (ccell x) 82 true)=H1 at *
 by_cases hneg:x.1.rule<0
 ·repeat (first|refine qqm rfl ?_|((first|refine qqr ?_|refine qqt ?_);simp only[SS,qx0,vun,simprocAttr,hb,v3,v5,hneg,ff_50]))
  first|refine qqf ?_ ?_|refine qqg ?_ ?_
  ·exact k1.keep
  ·simp only[packed,qv,Nat.reduceEqDiff,↓reduceIte,ff_50]
   unfold nextL
   rw[if_pos hneg]
 obtain⟨r,hr⟩:∃r:Nat,x.1.rule=r:=⟨x.1.rule.toNat,by omega⟩
 have hneg':(((r:Nat):Int)<0)=False:=eq_false (by omega)
 have hrl:r<g.rules.length:=by omega
 have hrg:g.rules[x.1.rule.toNat]? = some g.rules[r]:=by rw[hr,Int.toNat_natCast,List.getElem?_eq_getElem hrl]
 obtain⟨hd0,hd1⟩:=hd _ (by omega) hrg
 have ne1:=ne.mono hw0 k01
 obtain⟨z,kz,ds,tz,oz,pp,hpr,hz,d0,d1,d2,hpp⟩:=ne1.rls.at hrl
 have hmem:=List.getElem_mem hrl
 have hri:=hi.right _ hmem
 have hrT:=hi.rightT _ hmem
 have hrl24:=hlen _ hmem
 have hnet:=ne1.net
 rw[hpr]at hnet
 have hsl:nextL g x.1=if x.1.dot=(g.rules[r].right.length:Int) then -2 else match g.rules[r].right[x.1.dot.toNat]? with
  | none=>-2
  | some s=>if 0≤s then -2 else -s - 1:=by
  unfold nextL
  rw[if_neg hneg,hrg]
 rw[hsl]
 generalize g.rules[r]=ru at *
 obtain⟨dt,hdt⟩:∃dt:Nat,x.1.dot=dt:=⟨x.1.dot.toNat,by omega⟩
 have hd4:(ccell x)[2]? = some (.int .i64 (dt:Nat)):=by rw[v8,hdt]
 by_cases hend:dt=ru.right.length
 ·have hend':x.1.dot=(ru.right.length:Int):=by omega
  rw[if_pos hend']
  have hend2:((dt:Int)=(ru.right.length:Int))=True:=eq_true (by omega)
  repeat (first|refine qqm rfl ?_|((first|refine qqr ?_|refine qqt ?_);simp only[SS,qx0,vun,simprocAttr,hb,v3,v5,hd4,hnet,hneg',hr,hrl,hz,d1,hend2,aop_nc,tnc,decide_true,ff_50]))
  first|refine qqf ?_ ?_|refine qqg ?_ ?_
  ·exact k1.keep
  ·simp only[packed,qv,Nat.reduceEqDiff,↓reduceIte,ff_50]
 ·have hend':¬x.1.dot=(ru.right.length:Int):=by omega
  have hdl:dt<ru.right.length:=by omega
  obtain⟨z4,kz4,c4,t4,o4,hp4,hz4,e4⟩:=hpp.at hdl
  rw[if_neg hend',hdt,Int.toNat_natCast,List.getElem?_eq_getElem hdl]
  have hend2:((dt:Int)=(ru.right.length:Int))=False:=eq_false (by omega)
  have hsm:=List.getElem_mem hdl
  have hsv:=hri _ hsm
  have hst:=hrT _ hsm
  rw[hp4]at d1
  generalize ru.right[dt]=s at *
  have hnot:=bnot_i64 (n:=s) (by omega) (by omega)
  repeat (first|refine qqm rfl ?_|((first|refine qqr ?_|refine qqt ?_);simp only[SS,qx0,vun,simprocAttr,hb,v3,v5,hd4,hnet,hneg',hr,hrl,hz,d1,hend2,hdl,hz4,e4,hnot,aop_nc,tnc,decide_false,ff_50]))
  refine AtCall.by (isVar_gives _ _ _) ?_
  rintro v n2 H2 k2 ⟨rfl,rfl,rfl⟩
  by_cases hvar:0≤s
  ·simp only[SS,qx0,vun,simprocAttr,hvar,decide_true,ff_50]
   repeat (first|refine qqm rfl ?_|((first|refine qqr ?_|refine qqt ?_);simp only[SS,qx0,vun,simprocAttr,ff_50]))
   first|refine qqf ?_ ?_|refine qqg ?_ ?_
   ·exact k1.keep
   ·simp only[packed,qv,Nat.reduceEqDiff,↓reduceIte,ff_50]
    all_goals simp[hvar]
  ·have hvar':(0≤s)=False:=eq_false hvar
   simp only[SS,qx0,vun,simprocAttr,hvar',decide_false,ff_50]
   repeat (first|refine qqm rfl ?_|((first|refine qqr ?_|refine qqt ?_);simp only[SS,qx0,vun,simprocAttr,hdl,hd4,hb,v5,hz4,e4,hnot,ff_50]))
   first|refine qqf ?_ ?_|refine qqg ?_ ?_
   ·exact k1.keep
   ·simp only[packed,qv,Nat.reduceEqDiff,↓reduceIte,ff_50]
    all_goals simp[hvar]
end Go.Proofs.YtjlgpanihjnaeaaGreatDoor

namespace Go.Proofs.YtjlgpanihjnaeaaGreatDoor
open Go.AM
set_option maxRecDepth 100000
def VC(g:Gram)(c:Cfg):Prop:=c.rule<g.rules.length∧∀r,0≤c.rule→g.rules[c.rule.toNat]? = some r→0≤c.dot∧c.dot≤r.right.length
def idle(g:Gram)(c:Cfg):Bool:=decide (nextL g c = -2)
set_option maxHeartbeats 8000000 in
theorem close1_gives{N nn bn n cc:Nat}{H0 H:Heap}{x:CA}{pt pv pr:Option Addr}{g:Gram}{cl:List (Option Addr × List (Int × Int))}(hw0:WF N H0)(k0:Kp N H0 n H)(ne:NE H0 nn pt pv pr g cc cl)(hi:InG g)(hgl:g.terms.length≤64∧g.vars.length≤64)
  (hlen:∀r∈g.rules,r.right.length≤24) (hv:VC g x.1) (hbn:H0 bn=.cells [.pointer (some ⟨nn,0,none⟩)] 45 true) :
  Gives Tryz.prog 49 [.agg (ccell x).toArray,.pointer (some ⟨bn,0,none⟩)] n H fun v _ _=>v=.bool (idle g x.1):=by
 have hw:=k0.wf hw0
 refine Gives.of orders ok49 (Nat.le_of_ble_eq_true rfl) ?_
 have v1:∀s,vcells (.agg (ccell s).toArray)=ccell s:=fun _=>rfl
 have v2:∀s,(ccell s).all one=true:=fun _=>rfl
 have v5:∀s,(ccell s).length=4:=fun _=>rfl
 have v6:∀s,((ccell s).drop 0).take 4=ccell s:=fun _=>rfl
 have k1:=Kp.new n H (.cells (ccell x) 82 true)
 have hb:=hset_at H n (.cells (ccell x) 82 true)
 have k01:=k0.trans k1
 have hb1:=(k01.keep bn (live_lt hw0 (live_of hbn))).trans hbn
 repeat refine qqn rfl ?_
 (refine qqr ?_;simp only[SS,qx39,simprocAttr,abox,v1,v2,ff_49])
 generalize hset H n (.cells (ccell x) 82 true)=H1 at *
 repeat (first|refine qqm rfl ?_|((first|refine qqr ?_|refine qqt ?_);simp only[SS,qx39,simprocAttr,hb,hb1,v5,v6,ff_49]))
 refine AtCall.by (next_gives hw0 k01 ne hi hgl hlen hv.1 hv.2) ?_
 rintro v n2 H2 k2 rfl
 by_cases h:nextL g x.1 = -2
 ·simp only[SS,qx39,simprocAttr,h,decide_true,ff_49]
  repeat (first|refine qqm rfl ?_|((first|refine qqr ?_|refine qqt ?_);simp only[SS,qx39,simprocAttr,ff_49]))
  first|refine qqf ?_ ?_|refine qqg ?_ ?_
  ·exact(k1.trans k2).keep
  ·simp only[packed,qv,Nat.reduceEqDiff,↓reduceIte,ff_49]
   unfold idle
   rw[h]
   all_goals simp
 ·simp only[SS,qx39,simprocAttr,h,decide_false,ff_49]
  repeat (first|refine qqm rfl ?_|((first|refine qqr ?_|refine qqt ?_);simp only[SS,qx39,simprocAttr,ff_49]))
  first|refine qqf ?_ ?_|refine qqg ?_ ?_
  ·exact(k1.trans k2).keep
  ·simp only[packed,qv,Nat.reduceEqDiff,↓reduceIte,ff_49]
   unfold idle
   all_goals simp[h]
set_option maxHeartbeats 8000000 in
theorem indexF_gives{N nn bn n cc:Nat}{H0 H:Heap}{p:Option Addr}{L:List CA}{pt pv pr:Option Addr}{g:Gram}{cl:List (Option Addr × List (Int × Int))}(hw0:WF N H0)(k0:Kp N H0 n H)(ne:NE H0 nn pt pv pr g cc cl)(hi:InG g)(hgl:g.terms.length≤64∧g.vars.length≤64)
  (hlen:∀r∈g.rules,r.right.length≤24) (hv:∀x∈L,VC g x.1) (hbn:H0 bn=.cells [.pointer (some ⟨nn,0,none⟩)] 45 true) (hL:RN 4 ccell H p L) (hl:L.length≤65536) :
  Gives Tryz.prog 67 [.slice p L.length L.length,.func (.func 49) #[] #[.pointer (some ⟨bn,0,none⟩)]] n H fun v _ _ =>
   (v=.int .i64 (-1)∧∀x∈L,idle g x.1=false)∨∃i:Nat,∃h:i<L.length,v=.int .i64 (i:Nat)∧idle g L[i].1=true∧∀x∈L.take i,idle g x.1=false:=by
 have hw:=k0.wf hw0
 refine Gives.of orders ok67 (Nat.le_of_ble_eq_true rfl) ?_
 have v5:∀s,(ccell s).length=4:=fun _=>rfl
 repeat (first|refine qqm rfl ?_|((first|refine qqr ?_|refine qqt ?_);simp only[SS,qx13,simprocAttr,ff_67]))
 refine WK.loop (fun k s=>∃i:Nat,Kp n H s.n s.H∧s.f 0=.slice p L.length L.length∧s.f 1=.func (.func 49) #[] #[.pointer (some ⟨bn,0,none⟩)]∧s.f 7=.int .i64 (L.length:Nat)∧s.f 8=.int .i64 (i:Nat)∧i≤L.length∧(∀x∈L.take i,idle g x.1=false)∧k=L.length - i) L.length ?_ ?_
 ·exact⟨0,Kp.refl _ _,rfl,rfl,rfl,rfl,Nat.zero_le _,(fun x hx=>by simp at hx),rfl⟩
 rintro kk ⟨f,n1,H1⟩ ⟨i,k1,f0,f1,f7,f8,hil,hno,rfl⟩ ih
 simp only at k1 f0 f1 f7 f8 ih
 have hw1:=k1.wf hw
 have hL1:=hL.mono hw k1
 have k01:=k0.trans k1
 by_cases hlt:i<L.length
 ·have hiw:IntKind.i64.wrap ((i:Int)+1)=((i+1:Nat):Int):=by rw[wrap_in (by omega) (by omega)];rfl
  obtain⟨z,kz,cs,tz,oz,hp,hz,ez,lz⟩:=hL1.at ccell_len hlt
  rw[hp]at f0
  have hmem:=List.getElem_mem hlt
  have htk:L.take (i+1)=L.take i++[L[i]]:=List.take_succ_eq_append_getElem hlt
  have hcg:=close1_gives (x:=L[i]) hw0 k01 ne hi hgl hlen (hv _ hmem) hbn
  repeat (first|refine qqm rfl ?_|((first|refine qqr ?_|refine qqt ?_);simp only[SS,qx13,simprocAttr,f0,f1,f7,f8,hlt,hz,ez,lz,v5,List.nil_append,List.cons_append,ff_67]))
  refine AtCall.by hcg ?_
  rintro v n2 H2 k2 rfl
  cases hid:idle g L[i].1 with
  | true =>
   simp only[SS,qx13,simprocAttr,ff_67]
   repeat (first|refine qqm rfl ?_|((first|refine qqr ?_|refine qqt ?_);simp only[SS,qx13,simprocAttr,ff_67]))
   first|refine qqf ?_ ?_|refine qqg ?_ ?_
   ·exact(k1.trans k2).keep
   ·simp only[packed,qv,Nat.reduceEqDiff,↓reduceIte,ff_67]
    exact .inr ⟨i,hlt,rfl,hid,hno⟩
  | false =>
   simp only[SS,qx13,simprocAttr,ff_67]
   repeat (first|refine qqm rfl ?_|((first|refine qqr ?_|refine qqt ?_);simp only[SS,qx13,simprocAttr,f8,hiw,ff_67]))
   exact ih (L.length - (i+1)) (by omega) _ ⟨i+1,k1.trans k2,by rw[hp];exact f0,f1,f7,rfl,hlt,(fun x hx=>by
    rw[htk]at hx
    rcases List.mem_append.1 hx with h|h
    ·exact hno x h
    ·rw[List.mem_singleton]at h;rw[h];exact hid),rfl⟩
 ·rw[List.take_of_length_le (by omega)]at hno
  repeat (first|refine qqm rfl ?_|((first|refine qqr ?_|refine qqt ?_);simp only[SS,qx13,simprocAttr,f7,f8,hlt,ff_67]))
  first|refine qqf ?_ ?_|refine qqg ?_ ?_
  ·exact k1.keep
  ·simp only[packed,qv,Nat.reduceEqDiff,↓reduceIte,ff_67]
   exact .inl ⟨trivial,hno⟩
end Go.Proofs.YtjlgpanihjnaeaaGreatDoor

namespace Go.Proofs.YtjlgpanihjnaeaaGreatDoor
open Go.AM
set_option maxRecDepth 100000
theorem Come.all{deep most:Nat}{S T S' T':List CA}{x:CA}{P:Cfg→Prop}(h:Come deep most S T x S' T')(hS:∀y∈S++T,P y.1)(hx:x.1.stack.length≤deep→P x.1):∀y∈S'++T',P y.1:=by
 cases h with
 | old h=>exact hS
 | new h hd hm i hi =>
  have hP:=hx hd
  intro y hy
  rcases List.mem_append.1 hy with hy|hy
  ·rcases List.mem_append.1 hy with hy|hy
   ·rcases List.mem_append.1 hy with hy|hy
    ·exact hS y (List.mem_append_left _ (List.mem_of_mem_take hy))
    ·rw[List.mem_singleton]at hy;rw[hy];exact hP
   ·exact hS y (List.mem_append_left _ (List.mem_of_mem_drop hy))
  ·rcases List.mem_append.1 hy with hy|hy
   ·exact hS y (List.mem_append_right _ hy)
   ·rw[List.mem_singleton]at hy;rw[hy];exact hP
theorem Comes.all{deep most:Nat}{S T S' T':List CA}{l:List Cfg}{b:Bool}{P:Cfg→Prop}(h:Comes deep most S T l b S' T')(hS:∀y∈S++T,P y.1)(hl:∀c∈l,c.stack.length≤deep→P c):∀y∈S'++T',P y.1:=by
 induction h with
 | nil=>exact hS
 | fail=>exact hS
 | cons h _ ih=>exact ih (h.all hS (hl _ (List.mem_cons_self ..))) fun c hc=>hl c (List.mem_cons_of_mem _ hc)
theorem Come.mem{deep most:Nat}{S T S' T':List CA}{x:CA}(h:Come deep most S T x S' T')(c:Cfg):c∈S'.map (·.1)↔c∈S.map (·.1)∨c=x.1:=by
 cases h with
 | old h =>
  constructor
  ·exact .inl
  ·rintro(e|e)
   ·exact e
   ·rw[e];exact h
 | new h hd hm i hi =>
  conv=>rhs;rw[←List.take_append_drop i S]
  simp only[List.map_append,List.mem_append,List.map_cons,List.map_nil,List.mem_singleton]
  constructor
  ·rintro((e|e)|e)
   ·exact .inl (.inl e)
   ·exact .inr e
   ·exact .inl (.inr e)
  ·rintro((e|e)|e)
   ·exact .inl (.inl e)
   ·exact .inr e
   ·exact .inl (.inr e)
theorem Come.len{deep most:Nat}{S T S' T':List CA}{x:CA}(h:Come deep most S T x S' T'):S'.length+T.length=S.length+T'.length∧S.length≤S'.length:=by
 cases h with
 | old h=>exact⟨rfl,Nat.le_refl _⟩
 | new h hd hm i hi=>simp;omega
theorem Comes.len{deep most:Nat}{S T S' T':List CA}{l:List Cfg}{b:Bool}(h:Comes deep most S T l b S' T'):S'.length+T.length=S.length+T'.length∧S.length≤S'.length:=by
 induction h with
 | nil=>exact⟨rfl,Nat.le_refl _⟩
 | fail=>exact⟨rfl,Nat.le_refl _⟩
 | cons h _ ih=>have:=h.len;omega
theorem Comes.mem{deep most:Nat}{S T S' T':List CA}{l:List Cfg}{b:Bool}(h:Comes deep most S T l b S' T')(hb:b=true)(c:Cfg):c∈S'.map (·.1)↔c∈S.map (·.1)∨c∈l:=by
 induction h with
 | nil=>simp
 | fail=>cases hb
 | cons h _ ih =>
  rw[ih hb,h.mem,List.mem_cons]
  exact⟨fun e=>e.elim (fun e=>e.elim .inl fun e=>.inr (.inl e)) fun e=>.inr (.inr e),fun e=>e.elim (fun e=>.inl (.inl e)) fun e=>e.elim (fun e=>.inl (.inr e)) .inr⟩
inductive Pops(g:Gram)(cl:List (List (Int × Int)))(deep most:Nat):List CA→List CA→Bool→List CA→Prop where
 | done (S:List CA):Pops g cl deep most S [] true S
 | fail {S T S' T':List CA} {x:CA} (h:Comes deep most S T (stepL g cl x.1) false S' T'):Pops g cl deep most S (T++[x]) false S'
 | step {S T S' T' S2:List CA} {x:CA} {b:Bool} (h:Comes deep most S T (stepL g cl x.1) true S' T') (k:Pops g cl deep most S' T' b S2):Pops g cl deep most S (T++[x]) b S2
inductive Clo(g:Gram)(cl:List (List (Int × Int)))(deep most:Nat)(l:List Cfg):Bool→List CA→Prop where
 | fail {S T:List CA} (h:Comes deep most [] [] l false S T):Clo g cl deep most l false S
 | run {S T S':List CA} {b:Bool} (h:Comes deep most [] [] l true S T) (k:Pops g cl deep most S T b S'):Clo g cl deep most l b S'
def GC(g:Gram)(c:Cfg):Prop:=VC g c∧∀s∈c.stack,VS g s
theorem VS.gc{g:Gram}{s:Int × Int}{a:Int}{st:List (Int × Int)}(h:VS g s)(hs:∀s∈st,VS g s):GC g ⟨a,s.1,s.2,st⟩:=⟨⟨h.2.1,fun r _ hr=>⟨h.2.2.1,h.2.2.2 r hr⟩⟩,hs⟩
theorem back_gc{g:Gram}{cl:List (List (Int × Int))}{c:Cfg}(hcl:∀x∈cl,∀s∈x,VS g s)(h:GC g c):∀d∈backL g cl c,GC g d:=by
 intro d hd
 unfold backL at hd
 rcases List.eq_nil_or_concat c.stack with e|⟨st,s,e⟩
 ·simp only[e,List.getLast?_nil]at hd
  cases hr:g.rules[c.rule.toNat]? with
  | none=>simp[hr]at hd
  | some r =>
   simp only[hr]at hd
   rcases List.mem_append.1 hd with hd|hd
   ·split at hd
    ·rw[List.mem_singleton]at hd
     subst hd
     exact⟨⟨by show(-1:Int)<_;omega,fun r h=>absurd h (by show ¬(0:Int) ≤ -1;omega)⟩,fun s hs=>by simp at hs⟩
    ·simp at hd
   ·obtain⟨s,hs,rfl⟩:=List.mem_map.1 hd
    refine VS.gc ?_ fun s hs=>by simp at hs
    by_cases hl:r.left.toNat<cl.length
    ·rw[List.getD_eq_getElem?_getD,List.getElem?_eq_getElem hl]at hs
     exact hcl _ (List.getElem_mem hl) s hs
    ·rw[List.getD_eq_getElem?_getD,List.getElem?_eq_none (by omega)]at hs
     simp at hs
 ·rw[List.concat_eq_append]at e
  simp only[e,List.getLast?_concat]at hd
  rw[List.mem_singleton]at hd
  subst hd
  refine VS.gc (h.2 s (by rw[e];simp)) fun q hq=>h.2 q ?_
  rw[List.dropLast_concat]at hq
  rw[e]
  exact List.mem_append_left _ hq
theorem step_gc{g:Gram}{cl:List (List (Int × Int))}{c:Cfg}(hcl:∀x∈cl,∀s∈x,VS g s)(h:GC g c):∀d∈stepL g cl c,GC g d:=by
 intro d hd
 unfold stepL at hd
 split at hd
 ·simp at hd
 rename_i hneg
 split at hd
 ·simp at hd
 rename_i r hr
 obtain⟨h1,h2⟩:=h.1.2 r (by omega) hr
 split at hd
 ·exact back_gc hcl h d hd
 rename_i hne
 split at hd
 ·simp at hd
 rename_i s hs
 split at hd
 ·obtain⟨i,hi,rfl⟩:=List.mem_map.1 hd
  unfold ruleIx at hi
  rw[List.mem_filter,List.mem_range]at hi
  refine⟨⟨by show((i:Nat):Int)<_;omega,fun r' _ _=>⟨by show(0:Int)≤0;omega,by show(0:Int)≤_;omega⟩⟩,fun q hq=>?_⟩
  simp only[stkL]at hq
  split at hq
  ·rcases List.mem_append.1 hq with hq|hq
   ·exact h.2 q hq
   ·rw[List.mem_singleton]at hq
    subst hq
    refine⟨by show 0≤c.rule;omega,h.1.1,by show 0≤c.dot+1;omega,fun r' hr'=>?_⟩
    have e:some r=some r':=hr.symm.trans hr'
    cases e
    show c.dot+1≤_
    omega
  ·exact h.2 q hq
 ·simp at hd
end Go.Proofs.YtjlgpanihjnaeaaGreatDoor
