/- A part of a proof. Its conditions: none. -/
import Derived.Test.YtigijncdfkbaoaaGreatDoorAmYDfPl
import Derived.Test.YtigijncdfkbaoaaGreatDoorAmYAtAlts2
import Derived.Test.YtigijncdfkbaoaaGreatDoorAmYAtMv2
import Derived.Test.YtigijncdfkbaoaaGreatDoorAmC
import Derived.Test.YtigijncdfkbaoaaGreatDoorAmYKpD
set_option linter.all false
namespace Go.Proofs.YtigijncdfkbaoaaGreatDoor
open Go.AM
set_option maxRecDepth 100000
theorem DRun.inv{g:Gram}{dp pl:Nat}{w:List Int}{l:List Cfg}{j:Nat}{a m:Int}(h:DRun g dp pl w l j a m):∃C R,ClS g dp pl l C∧AltsL C R ∧
  ((R=[a]∧m=(j:Nat))∨(R=[]∧a = -1∧m=(j:Nat) - 1)∨(2≤R.length∧j=w.length∧((AltsL (endsL g C) []∧a = -1∧m=(j:Nat))∨(AltsL (endsL g C) [a]∧m=((j+1:Nat)))))∨(2≤R.length∧∃hj:j<w.length,DRun g dp pl w (moveL g w[j] C) (j+1) a m)):=by
 cases h with
 | one h ha=>exact⟨_,_,h,ha,.inl ⟨rfl,rfl⟩⟩
 | none h ha=>exact⟨_,_,h,ha,.inr (.inl ⟨rfl,rfl,rfl⟩)⟩
 | endN h ha h2 hj he=>exact⟨_,_,h,ha,.inr (.inr (.inl ⟨h2,hj,.inl ⟨he,rfl,rfl⟩⟩))⟩
 | end1 h ha h2 hj he=>exact⟨_,_,h,ha,.inr (.inr (.inl ⟨h2,hj,.inr ⟨he,rfl⟩⟩))⟩
 | step h ha h2 hj hr=>exact⟨_,_,h,ha,.inr (.inr (.inr ⟨h2,hj,hr⟩))⟩
set_option maxHeartbeats 32000000 in
theorem run15_gives{n dp pl:Nat}{H:Heap}{vg:Value}{g:Gram}{v:Int}{pw:Option Addr}{w:List Int}{a m:Int}(hw:WF n H)(hg:RG H vg g)(ok:RightOK g)(hp:RA (Value.int .i64) H pw w)(hwl:w.length≤1000)(hdp:dp≤1000)(hpl:pl≤1000)(hD:DRun g dp pl w ((startL g v).map (·.1)) 0 a m) :
  Gives Tryz.prog 9 [vg,.int .i64 v,.slice pw w.length w.length,.int .i64 (dp:Nat),.int .i64 (pl:Nat)] n H fun r _ _=>r=.tuple #[.int .i64 a,.int .i64 m,.bool true]:=by
 have hg0:=hg
 obtain⟨pt,pv,pr,rfl,ht,hvs,hr⟩:=hg
 have hi:=ok.inG
 have hru:=ok.rules
 have hgl:g.terms.length≤64∧g.vars.length≤64:=⟨ok.terms,ok.vars⟩
 have hlen:∀r∈g.rules,r.right.length≤24:=fun r hr=>by
  obtain⟨i,hi,rfl⟩:=List.getElem_of_mem hr
  exact(ok.rule i hi).len
 refine Gives.of orders ok9 (Nat.le_of_ble_eq_true rfl) ?_
 have v1:∀s,vcells (.agg (ccell s).toArray)=ccell s:=fun _=>rfl
 have v2:∀s,(ccell s).all one=true:=fun _=>rfl
 have v5:∀s,(ccell s).length=4:=fun _=>rfl
 have v6:∀s,((ccell s).drop 0).take 4=ccell s:=fun _=>rfl
 have v7:∀s,(ccell s).take 4=ccell s:=fun _=>rfl
 have hs4:∀(a b c d:Value) (x:CA),AM.splice [a,b,c,d] 0 (ccell x)=ccell x:=fun _ _ _ _ _=>rfl
 have g2:((gcells pt pv pr g).drop 0).take 3=gcells pt pv pr g:=rfl
 have g3:(gcells pt pv pr g).length=3:=rfl
 repeat refine qqn rfl ?_
 (refine qqr ?_;simp only[SS,qx9,vun,simprocAttr,abox,box_cells,box_one,ff_9])
 have k1:=Kp.new n H (.cells (gcells pt pv pr g) 25 true)
 have hG:=hset_at H n (.cells (gcells pt pv pr g) 25 true)
 generalize hset H n (.cells (gcells pt pv pr g) 25 true)=H1 at *
 have hw1:=k1.wf hw
 repeat (first|refine qqm rfl ?_|((first|refine qqr ?_|refine qqt ?_);simp only[SS,qx9,vun,simprocAttr,hG,g2,g3,ff_9]))
 refine AtCall.by (start14_gives hw1 (hg0.mono hw k1) ok) ?_
 rintro _ n2 H2 k2 ⟨y2,L2,rfl,hy2,hL2,hl2,hs2⟩
 have hw2:=k2.wf hw1
 have k12:=k1.trans k2
 have hgc2:∀z∈L2,GC g z.1:=fun z hz=>by
  have h1:z.1∈(startL g v).map (·.1):=by rw[←hL2];exact List.mem_map.2 ⟨z,hz,rfl⟩
  obtain⟨y,hy,e⟩:=List.mem_map.1 h1
  rw[←e];exact(startL_mem g v y hy).2.2
 rw[←hL2]at hD
 simp only[SS,qx9,vun,simprocAttr,ff_9]
 repeat (first|refine qqm rfl ?_|((first|refine qqr ?_|refine qqt ?_);simp only[SS,qx9,vun,simprocAttr,ff_9]))
 refine WK.loop (fun kk s=>∃(j y:Nat) (L:List CA),Kp n H s.n s.H∧s.H y=.cells (L.flatMap ccell) 66 true∧(∀z∈L,XD s.H z)∧(∀z∈L,GC g z.1)∧L.length≤10000∧(∀z∈L,z.1.stack.length≤10000)∧s.H n=.cells (gcells pt pv pr g) 25 true∧n<s.n∧s.f 2=.slice pw w.length w.length∧s.f 3=.int .i64 (dp:Nat)∧s.f 4=.int .i64 (pl:Nat)∧s.f 5=.pointer (some ⟨n,0,none⟩)∧s.f 13=lv y L∧s.f 14=.int .i64 (j:Nat)∧j≤w.length∧DRun g dp pl w (L.map (·.1)) j a m∧kk=w.length+1 - j) (w.length+1) ?_ ?_
 ·exact⟨0,y2,L2,k12,hy2,fun z hz=>⟨.inl ⟨(hs2 z hz).2,(hs2 z hz).1⟩,fun z' k e=>by rw[(hs2 z hz).2]at e;cases e⟩,hgc2,by omega,fun z hz=>by rw[(hs2 z hz).1];exact Nat.zero_le _,(k2.keep n (by omega)).trans hG,by have:=k2.le;show n<n2;omega,rfl,rfl,rfl,rfl,rfl,rfl,Nat.zero_le _,hD,rfl⟩
 clear hD hy2 hL2 hl2 hs2 hgc2 L2 y2 k2 hw2 k12
 rintro kk ⟨f,n3,H3⟩ ⟨j,y,L,k3,hy,hXD,hGC,hLl,hLs,hG3,hnn,f2,f3,f4,f5,f13,f14,hjl,hD,rfl⟩ ih
 simp only at k3 hy hXD hG3 hnn f2 f3 f4 f5 f13 f14 ih
 have hw3:=k3.wf hw
 have hle3:=k3.le
 have hww:IntKind.i64.wrap ((w.length:Int)+1)=((w.length+1:Nat):Int):=by rw[wrap_in (by omega) (by omega)];rfl
 have hju:((j:Int)≤((w.length+1:Nat):Int))=True:=eq_true (by omega)
 have hjw:IntKind.i64.wrap ((j:Int)+1)=((j+1:Nat):Int):=by rw[wrap_in (by omega) (by omega)];rfl
 have hrn:RN 4 ccell H3 (some ⟨y,0,none⟩) L:=.inr ⟨y,0,_,_,true,rfl,hy,by rw[fm_len ccell_len];omega,by rw[List.drop_zero];exact List.take_of_length_le (by rw[fm_len ccell_len];omega)⟩
 have hlv:lv y L=.slice (some ⟨y,0,none⟩) L.length L.length:=rfl
 repeat (first|refine qqm rfl ?_|((first|refine qqr ?_|refine qqt ?_);simp only[SS,qx9,vun,simprocAttr,f2,f3,f4,f5,f13,f14,hww,hju,hlv,hG3,g2,g3,ff_9]))
 refine AtCall.by (close14_gives hw3 (hg0.mono hw k3) ok hrn hXD hGC hpl hdp hLl hLs) ?_
 rintro va n4 H4 k4 hC14
 have hw4:=k4.wf hw3
 have hle4:=k4.le
 have k04:=k3.trans k4
 have hG4:=(k4.keep n hnn).trans hG3
 obtain⟨C,R,hCl,hR,hcase⟩:=hD.inv
 rcases hC14 with⟨_,hsh⟩|⟨yS,S,A,rfl,hyS,hXS,hSs,hfu,hSm⟩
 ·obtain⟨⟨A,hA⟩,_⟩:=hCl
  exact(hA.not hsh).elim
 have hSC:S.map (·.1)=C:=ClS.uniq ⟨⟨A,hfu⟩,S,rfl,hSs,fun c=>by rw[hSm,hfu.mem]⟩ hCl
 have hSrch:∀z∈S,RchC g (callsL g) (L.map (·.1)) z.1∧z.1∈A:=fun z hz=>by
  have h1:=(hSm z.1).1 (List.mem_map.2 ⟨z,hz,rfl⟩)
  exact⟨(hfu.mem _).1 h1.1,h1.1⟩
 have hSgc:∀z∈S,GC g z.1:=fun z hz=>(hSrch z hz).1.gc fun c hc=>by
  obtain⟨y,hy,rfl⟩:=List.mem_map.1 hc
  exact hGC y hy
 have hSd:∀z∈S,z.1.stack.length≤1000:=fun z hz=>Nat.le_trans (hfu.dp _ (hSrch z hz).2) hdp
 have hSl:S.length≤1000:=by
  have h1:S.length=(S.map (·.1)).length:=(List.length_map _).symm
  have hnd:(S.map (·.1)).Nodup:=List.pairwise_map.2 (List.Pairwise.imp (fun{a b} h e=>by
   have h0:cmpC b.1 b.1=0:=cmpC_zero.2 rfl
   have h':cmpC a.1 b.1<0:=h
   rw[e,h0]at h'
   omega) hSs)
  have h2:=nodup_sub_len _ _ hnd fun c hc=>((hSm c).1 hc).1
  have h3:=hfu.len
  omega
 have hrnS:RN 4 ccell H4 (some ⟨yS,0,none⟩) S:=.inr ⟨yS,0,_,_,true,rfl,hyS,by rw[fm_len ccell_len];omega,by rw[List.drop_zero];exact List.take_of_length_le (by rw[fm_len ccell_len];omega)⟩
 have hlvS:lv yS S=.slice (some ⟨yS,0,none⟩) S.length S.length:=rfl
 rw[hlvS]
 simp only[SS,qx9,vun,simprocAttr,List.toList_toArray,ff_9]
 repeat (first|refine qqm rfl ?_|((first|refine qqr ?_|refine qqt ?_);simp only[SS,qx9,vun,simprocAttr,ff_9]))
 refine AtCall.by (alts14_gives hw4 hrnS (by omega)) ?_
 rintro _ n5 H5 k5 ⟨pA,RR,rfl,hRR,hRA,_⟩
 have hw5:=k5.wf hw4
 have hle5:=k5.le
 rw[hSC]at hRA
 obtain rfl:=alts_uniq hR hRA
 have k05:=k04.trans k5
 have hG5:=(k5.keep n (by omega)).trans hG4
 simp only[SS,qx9,vun,simprocAttr,ff_9]
 refine WK.frame (fun f=>f 2=.slice pw w.length w.length∧f 3=.int .i64 (dp:Nat)∧f 4=.int .i64 (pl:Nat)∧f 5=.pointer (some ⟨n,0,none⟩)∧f 14=.int .i64 (j:Nat)∧f 15=.slice (some ⟨yS,0,none⟩) S.length S.length∧f 17=.slice pA R.length R.length) ⟨f2,f3,f4,f5,f14,rfl,rfl⟩ ?_
 clear f2 f3 f4 f5 f13 f14 f
 rintro f ⟨f2,f3,f4,f5,f14,f15,f17⟩
 rcases hcase with⟨hR1,rfl⟩|⟨hR0,rfl,rfl⟩|⟨h2,hje,hend⟩|⟨h2,hj,hD'⟩
 ·have hlR:R.length=1:=by rw[hR1];rfl
  have h1':((R.length:Int)=1)=True:=eq_true (by omega)
  have h01:0<R.length:=by omega
  have h01i:((0:Int)<(R.length:Int))=True:=eq_true (by omega)
  obtain⟨z,kz,cs,tz,oz,e0,hz,e⟩:=hRR.at h01
  subst e0
  rw[Nat.add_zero,show R[0]=a by simp[hR1]]at e
  repeat (first|refine qqm rfl ?_|((first|refine qqr ?_|refine qqt ?_);simp only[SS,qx9,vun,simprocAttr,f14,f17,h1',h01,h01i,hz,e,decide_true,ff_9]))
  first|refine qqf ?_ ?_|refine qqg ?_ ?_
  ·exact k05.keep
  ·simp only[packed,qv,Nat.reduceEqDiff,↓reduceIte,ff_9]
 ·have h1':((R.length:Int)=1)=False:=eq_false (by rw[hR0];decide)
  have h0':((R.length:Int)=0)=True:=eq_true (by rw[hR0];rfl)
  have hjm:IntKind.i64.wrap ((j:Int) - 1)=(j:Int) - 1:=wrap_in (by omega) (by omega)
  repeat (first|refine qqm rfl ?_|((first|refine qqr ?_|refine qqt ?_);simp only[SS,qx9,vun,simprocAttr,f14,f17,h1',h0',hjm,decide_true,decide_false,ff_9]))
  first|refine qqf ?_ ?_|refine qqg ?_ ?_
  ·exact k05.keep
  ·simp only[packed,qv,Nat.reduceEqDiff,↓reduceIte,ff_9]
 ·have h1':((R.length:Int)=1)=False:=eq_false (by omega)
  have h0':((R.length:Int)=0)=False:=eq_false (by omega)
  have hje':((j:Int)=(w.length:Int))=True:=eq_true (by omega)
  have kI:=Kp.new n5 H5 (.cells [] 66 true)
  have hI:=hset_at H5 n5 (.cells [] 66 true)
  repeat (first|refine qqm rfl ?_|((first|refine qqr ?_|refine qqt ?_);simp only[SS,qx9,vun,simprocAttr,f2,f14,f17,h1',h0',hje',decide_true,decide_false,ff_9]))
  generalize hset H5 n5 (.cells [] 66 true)=HI at *
  refine WK.loop (fun kk s=>∃(i yE:Nat) (E:List CA),Kp n5 H5 s.n s.H∧n5≤yE∧yE<s.n∧s.H yE=.cells (E.flatMap ccell) 66 true∧s.f 5=.pointer (some ⟨n,0,none⟩)∧s.f 14=.int .i64 (j:Nat)∧s.f 15=.slice (some ⟨yS,0,none⟩) S.length S.length∧s.f 18=.slice (some ⟨yE,0,none⟩) E.length E.length∧s.f 19=.int .i64 (i:Nat)∧i≤S.length∧E=(S.take i).filter (fun x=>decide (nextL g x.1 = -1))∧kk=S.length - i) S.length ?_ ?_
  ·exact⟨0,n5,[],kI,Nat.le_refl _,Nat.lt_succ_self _,hI,f5,f14,f15,rfl,rfl,Nat.zero_le _,rfl,rfl⟩
  clear f2 f3 f4 f5 f14 f15 f17 kI hI HI f ih
  rintro kk ⟨f,n6,H6⟩ ⟨i,yE,E,k6,hyE0,hyEn,hyE,f5,f14,f15,f18,f19,hil,hE,rfl⟩ ihe
  simp only at k6 hyEn hyE f5 f14 f15 f18 f19 ihe
  have hw6:=k6.wf hw5
  have hle6:=k6.le
  have hEl:E.length≤1000:=by rw[hE];exact Nat.le_trans (List.length_filter_le _ _) (by rw[List.length_take];omega)
  have hG6:=(k6.keep n (by omega)).trans hG5
  have hrn6:=(hrnS.mono hw4 k5).mono hw5 k6
  by_cases hlt:i<S.length
  case pos =>
   have hlt':((i:Int)<(S.length:Int))=True:=eq_true (by omega)
   have hiw:IntKind.i64.wrap ((i:Int)+1)=((i+1:Nat):Int):=by rw[wrap_in (by omega) (by omega)];rfl
   have hmem:=List.getElem_mem hlt
   have htk:(S.take (i+1)).filter (fun x=>decide (nextL g x.1 = -1))=E++if nextL g S[i].1 = -1 then [S[i]] else []:=by
    rw[List.take_add_one,List.getElem?_eq_getElem hlt,List.filter_append,hE]
    by_cases hc:nextL g S[i].1 = -1 <;> simp[hc]
   obtain⟨u,k0,cs,ty,own,q1,q2,q3,q4⟩:=hrn6.at ccell_len hlt
   have q1':=q1
   cases q1
   rw[Nat.zero_add]at q3 q4
   repeat (first|refine qqm rfl ?_|((first|refine qqr ?_|refine qqt ?_);simp only[SS,qx9,vun,simprocAttr,f5,f14,f15,f18,f19,hlt,hlt',hG6,g2,g3,q2,q3,q4,v1,v2,v5,v6,hs4,ff_9]))
   refine AtCall.by (next14_gives hw6 (hg0.mono hw (k05.trans k6)) hi hgl hlen (hSgc _ hmem).1) ?_
   rintro _ n7 H7 k7 rfl
   have hw7:=k7.wf hw6
   have hle7:=k7.le
   have q27:=(k7.keep yS (live_lt hw6 (live_of q2))).trans q2
   have hyE7:=(k7.keep yE hyEn).trans hyE
   have k67:=k6.trans k7
   by_cases hn1:nextL g S[i].1 = -1
   ·rw[if_pos hn1]at htk
    have hn1':(nextL g S[i].1 = -1)=True:=eq_true hn1
    have m1:∀A,hset H7 n7 A yE=_:=fun A=>(hset_ne _ _ _ (by omega)).trans hyE7
    have bl:E.length+1≤bigN:=by unfold bigN;omega
    have hct:[n7].contains yE=false:=by simp;omega
    have hfl:(E.flatMap ccell).length=E.length*4:=fm_len ccell_len _
    have hft:(E.flatMap ccell).take (E.length*4)=E.flatMap ccell:=List.take_of_length_le (by omega)
    have kB:∀A D,Kp n5 H5 (n7+1+1) (hset (hset (hset H7 n7 A) yE .dead) (n7+1) D):=fun A D=>((k67.trans (Kp.new n7 H7 A)).set (x:=yE) .dead hyE0 (by omega)).trans (Kp.new (n7+1) _ D)
    simp only[SS,qx9,vun,simprocAttr,hn1',decide_true,ff_9]
    repeat (first|refine qqm rfl ?_|((first|refine qqr ?_|refine qqt ?_);simp only[SS,qx9,vun,simprocAttr,f15,f18,f19,hlt,hlt',hiw,q27,q3,q4,v1,v2,v5,v6,v7,hs4,m1,hyE7,bl,hct,hfl,hft,hset_at,Nat.le_refl,List.drop_zero,ff_9]))
    refine ihe (S.length - (i+1)) (by omega) _ ?_
    refine⟨i+1,n7+1,E++[S[i]],kB _ _,by omega,Nat.lt_succ_self _,?_,f5,f14,f15,?_,rfl,hlt,htk.symm,rfl⟩
    ·rw[List.flatMap_append,List.flatMap_singleton];exact hset_at _ _ _
    ·rw[List.length_append,List.length_singleton];rfl
   ·rw[if_neg hn1,List.append_nil]at htk
    have hn1':(nextL g S[i].1 = -1)=False:=eq_false hn1
    simp only[SS,qx9,vun,simprocAttr,hn1',decide_false,ff_9]
    repeat (first|refine qqm rfl ?_|((first|refine qqr ?_|refine qqt ?_);simp only[SS,qx9,vun,simprocAttr,f19,hiw,ff_9]))
    refine ihe (S.length - (i+1)) (by omega) _ ?_
    exact⟨i+1,yE,E,k67,hyE0,by show yE<n7;omega,hyE7,f5,f14,f15,f18,rfl,hlt,htk.symm,rfl⟩
  obtain rfl:i=S.length:=by omega
  rw[List.take_length]at hE
  clear ihe
  have hlt':((S.length:Int)<(S.length:Int))=False:=eq_false (by omega)
  have hEe:E.map (·.1)=endsL g C:=by rw[hE,←hSC];unfold endsL;rw[List.filter_map];rfl
  have hrE:RN 4 ccell H6 (some ⟨yE,0,none⟩) E:=.inr ⟨yE,0,_,_,true,rfl,hyE,by rw[fm_len ccell_len];omega,by rw[List.drop_zero];exact List.take_of_length_le (by rw[fm_len ccell_len];omega)⟩
  repeat (first|refine qqm rfl ?_|((first|refine qqr ?_|refine qqt ?_);simp only[SS,qx9,vun,simprocAttr,f14,f15,f18,f19,hlt',ff_9]))
  refine AtCall.by (alts14_gives hw6 hrE (by omega)) ?_
  rintro _ n7 H7 k7 ⟨pE,RE,rfl,hRE,hREA,_⟩
  rw[hEe]at hREA
  have k07:=(k05.trans k6).trans k7
  rcases hend with⟨he,rfl,rfl⟩|⟨he,rfl⟩
  ·have hRE0:=alts_uniq hREA he
   have h0'':((RE.length:Int)=0)=True:=eq_true (by rw[hRE0];rfl)
   simp only[SS,qx9,vun,simprocAttr,ff_9]
   repeat (first|refine qqm rfl ?_|((first|refine qqr ?_|refine qqt ?_);simp only[SS,qx9,vun,simprocAttr,f14,h0'',decide_true,ff_9]))
   first|refine qqf ?_ ?_|refine qqg ?_ ?_
   ·exact k07.keep
   ·simp only[packed,qv,Nat.reduceEqDiff,↓reduceIte,ff_9]
  ·have hRE1:=alts_uniq hREA he
   have hlR:RE.length=1:=by rw[hRE1];rfl
   have h1'':((RE.length:Int)=1)=True:=eq_true (by omega)
   have h0'':((RE.length:Int)=0)=False:=eq_false (by omega)
   have h01:0<RE.length:=by omega
   have h01i:((0:Int)<(RE.length:Int))=True:=eq_true (by omega)
   obtain⟨z,kz,cs,tz,oz,e0,hz,e⟩:=hRE.at h01
   subst e0
   rw[Nat.add_zero,show RE[0]=a by simp[hRE1]]at e
   simp only[SS,qx9,vun,simprocAttr,ff_9]
   repeat (first|refine qqm rfl ?_|((first|refine qqr ?_|refine qqt ?_);simp only[SS,qx9,vun,simprocAttr,f14,h0'',h1'',h01,h01i,hz,e,hjw,decide_true,decide_false,ff_9]))
   first|refine qqf ?_ ?_|refine qqg ?_ ?_
   ·exact k07.keep
   ·simp only[packed,qv,Nat.reduceEqDiff,↓reduceIte,ff_9]
 ·have h1':((R.length:Int)=1)=False:=eq_false (by omega)
  have h0':((R.length:Int)=0)=False:=eq_false (by omega)
  have hje':((j:Int)=(w.length:Int))=False:=eq_false (by omega)
  have hj':((j:Int)<(w.length:Int))=True:=eq_true (by omega)
  obtain⟨zw,kw,cw,tw,ow,ew,hzw,hcw⟩:=((hp.mono hw k05)).at hj
  subst ew
  repeat (first|refine qqm rfl ?_|((first|refine qqr ?_|refine qqt ?_);simp only[SS,qx9,vun,simprocAttr,f2,f5,f14,f15,f17,h1',h0',hje',hj,hj',hzw,hcw,hG5,g2,g3,decide_false,ff_9]))
  refine AtCall.by (move14_gives hw5 (hg0.mono hw k05) ok (hrnS.mono hw4 k5) (fun z hz=>(hXS z hz).kp hw4 k5) hSgc (by omega)) ?_
  rintro _ n6 H6 k6 ⟨y6,M,rfl,hy6,hMm,hMx⟩
  have hle6:=k6.le
  have hMat:∀z∈M,∃y∈S,z.1=mvC y.1∧0≤w[j]∧nextL g y.1=w[j]:=fun z hz=>by
   have h1:z.1∈moveL g w[j] (S.map (·.1)):=by rw[←hMm];exact List.mem_map.2 ⟨z,hz,rfl⟩
   obtain⟨dd,hd,e,h0,hn⟩:=moveL_at h1
   obtain⟨yy,hy,rfl⟩:=List.mem_map.1 hd
   exact⟨yy,hy,e,h0,hn⟩
  have hMl:M.length≤1000:=by
   have h1:M.length=(M.map (·.1)).length:=(List.length_map _).symm
   rw[h1,hMm]
   exact Nat.le_trans moveL_len (by rw[List.length_map];exact hSl)
  simp only[SS,qx9,vun,simprocAttr,ff_9]
  repeat (first|refine qqm rfl ?_|((first|refine qqr ?_|refine qqt ?_);simp only[SS,qx9,vun,simprocAttr,f14,hjw,ff_9]))
  refine ih (w.length+1 - (j+1)) (by omega) _ ?_
  refine⟨j+1,y6,M,k05.trans k6,hy6,hMx,fun z hz=>?_,by omega,fun z hz=>?_,(k6.keep n (by omega)).trans hG5,by show n<n6;omega,f2,f3,f4,f5,rfl,rfl,hj,by rw[hMm,hSC];exact hD',rfl⟩
  ·obtain⟨y,hy,e,h0,hn⟩:=hMat z hz
   rw[e];exact mvC_gc (hSgc y hy) h0 hn
  ·obtain⟨y,hy,e,h0,hn⟩:=hMat z hz
   have:=hSd y hy
   rw[e];show y.1.stack.length≤10000;omega
end Go.Proofs.YtigijncdfkbaoaaGreatDoor

namespace Go.Proofs.YtigijncdfkbaoaaGreatDoor
open Go.AM Go.AM.Fo
set_option maxRecDepth 100000
inductive Ac(g:Gram):Cfg→List Int→Prop where
 | fin {c:Cfg} (h:c.rule = -1):Ac g c []
 | step {c d:Cfg} {u:List Int} (h:d∈stepL g (callsL g) c) (k:Ac g d u):Ac g c u
 | read {c:Cfg} {t:Int} {u:List Int} (h0:0≤t) (h:nextL g c=t) (k:Ac g (mvC c) u):Ac g c (t::u)
theorem Ac.run{g:Gram}{c:Cfg}{u:List Int}(h:Ac g c u):∃c',(∀l,RchC g (callsL g) l c→RchC g (callsL g) l c')∧c'.alt=c.alt∧((u=[]∧nextL g c' = -1)∨∃t u',u=t::u'∧0≤t∧nextL g c'=t∧Ac g (mvC c') u'):=by
 induction h with
 | @fin c h=>exact⟨c,fun _ h=>h,rfl,.inl ⟨rfl,by unfold nextL;rw[if_pos (by omega)]⟩⟩
 | step h _ ih =>
  obtain⟨c',h1,h2,h3⟩:=ih
  exact⟨c',fun l hl=>h1 l (.step hl h),h2.trans (step_alt h),h3⟩
 | @read c t u h0 h k _=>exact⟨c,fun _ h=>h,rfl,.inr ⟨t,u,rfl,h0,h,k⟩⟩
variable {g:Gram}
theorem rgt_eq{r:Nat}(h:r<g.rules.length):rgt g r=g.rules[r].right:=by unfold rgt;rw[List.getElem?_eq_getElem h];rfl
theorem lft_eq{r:Nat}(h:r<g.rules.length):lft g r=g.rules[r].left:=by unfold lft;rw[List.getElem?_eq_getElem h];rfl
theorem rule_get{r:Nat}(h:r<g.rules.length):g.rules[((r:Nat):Int).toNat]? = some g.rules[r]:=by rw[Int.toNat_natCast,List.getElem?_eq_getElem h]
theorem step_in{a:Int}{r i k:Nat}{st:List (Int × Int)}(hr:r<g.rules.length)(hi:i<(rgt g r).length)(hk:k<g.rules.length)(h0:0≤lft g k)(h:(rgt g r)[i]=lft g k) :
  (⟨a,(k:Nat),0,if st=[]∨i+1<(rgt g r).length then st++[((r:Int),((i+1:Nat):Int))] else st⟩:Cfg)∈stepL g (callsL g) ⟨a,(r:Nat),(i:Nat),st⟩:=by
 have hR:=rgt_eq hr
 have hi':i<g.rules[r].right.length:=by rw[←hR];exact hi
 have hs:g.rules[r].right[i]? = some (lft g k):=by
  rw[←h,←hR];exact List.getElem?_eq_getElem hi
 unfold stepL
 rw[if_neg (by show ¬((r:Nat):Int)<0;omega)]
 simp only[rule_get hr]
 rw[if_neg (by omega)]
 simp only[Int.toNat_natCast,hs]
 rw[if_pos h0]
 refine List.mem_map.2 ⟨k,?_,?_⟩
 ·unfold ruleIx
  rw[List.mem_filter,List.mem_range]
  refine⟨hk,?_⟩
  rw[List.getElem?_eq_getElem hk,lft_eq hk]
  simp
 ·unfold stkL
  rw[hR]
  simp only
  by_cases hc:st=[]∨i+1<g.rules[r].right.length
  ·rw[if_pos hc,if_pos (by rcases hc with h|h;exact .inl h;exact .inr (by omega))]
   rfl
  ·rw[if_neg hc,if_neg (by rintro(h|h);exact hc (.inl h);exact hc (.inr (by omega)))]
theorem step_pop{a:Int}{r:Nat}{st:List (Int × Int)}{s:Int × Int}(hr:r<g.rules.length):(⟨a,s.1,s.2,st⟩:Cfg)∈stepL g (callsL g) ⟨a,(r:Nat),((rgt g r).length:Nat),st++[s]⟩:=by
 unfold stepL
 rw[if_neg (by show ¬((r:Nat):Int)<0;omega)]
 simp only[rule_get hr]
 rw[if_pos (by rw[rgt_eq hr])]
 unfold backL
 simp
theorem step_end{a:Int}{r:Nat}(hr:r<g.rules.length)(h0:lft g r=0):(⟨a,-1,0,[]⟩:Cfg)∈stepL g (callsL g) ⟨a,(r:Nat),((rgt g r).length:Nat),[]⟩:=by
 unfold stepL
 rw[if_neg (by show ¬((r:Nat):Int)<0;omega)]
 simp only[rule_get hr]
 rw[if_pos (by rw[rgt_eq hr])]
 unfold backL
 simp only[List.getLast?_nil,rule_get hr]
 rw[lft_eq hr]at h0
 rw[if_pos h0]
 simp
theorem step_call {a : Int} {r k j : Nat} (hr : r < g.rules.length) (hv : 0 ≤ lft g r ∧ lft g r < g.vars.length) (hk : k < g.rules.length) (hj : j < (rgt g k).length) (h : (rgt g k)[j] = lft g r) : (⟨a, (k : Nat), ((j + 1 : Nat) : Int), []⟩ : Cfg) ∈ stepL g (callsL g) ⟨a, (r : Nat), ((rgt g r).length : Nat), []⟩ := by
  unfold stepL
  rw [if_neg (by show ¬ ((r : Nat) : Int) < 0; omega)]
  simp only [rule_get hr]
  rw [if_pos (by rw [rgt_eq hr])]
  unfold backL
  simp only [List.getLast?_nil, rule_get hr]
  rw [lft_eq hr] at hv h
  refine List.mem_append_right _ (List.mem_map.2 ⟨((k : Int), ((j + 1 : Nat) : Int)), ?_, rfl⟩)
  unfold callsL
  rw [List.getD_eq_getElem?_getD, List.getElem?_map, List.getElem?_range (by omega)]
  show _ ∈ callsN g g.rules.length g.rules[r].left.toNat
  unfold callsN
  refine List.mem_flatMap.2 ⟨k, List.mem_range.2 hk, ?_⟩
  simp only [List.getElem?_eq_getElem hk]
  unfold rowT
  refine List.mem_filterMap.2 ⟨j, ?_, ?_⟩
  · rw [List.mem_range, ← rgt_eq hk]; exact hj
  · have e : g.rules[k].right[j]? = some (g.rules[r].left) := by
      rw [← h, List.getElem?_eq_getElem (by rw [← rgt_eq hk]; exact hj)]
      simp only [rgt_eq hk]
    rw [e, if_pos (by congr 1; omega)]
theorem next_term{a s:Int}{r i:Nat}{st:List (Int × Int)}(hr:r<g.rules.length)(hi:i<(rgt g r).length)(h:(rgt g r)[i]=s)(hs:s<0):nextL g ⟨a,(r:Nat),(i:Nat),st⟩ = -s - 1:=by
 have hi':i<g.rules[r].right.length:=by rw[←rgt_eq hr];exact hi
 have hs':g.rules[r].right[i]? = some s:=by
  rw[←h,List.getElem?_eq_getElem hi']
  simp only[rgt_eq hr]
 unfold nextL
 rw[if_neg (by show ¬((r:Nat):Int)<0;omega)]
 simp only[rule_get hr]
 rw[if_neg (by omega)]
 simp only[Int.toNat_natCast,hs']
 rw[if_neg (by omega)]
def Rt(g:Gram)(a:Int)(r:Nat)(st:List (Int × Int))(v:List Int):Prop :=
 (st=[]∧Ac g ⟨a,(r:Nat),((rgt g r).length:Nat),[]⟩ v)∨∃st0 s,st=st0++[s]∧Ac g ⟨a,s.1,s.2,st0⟩ v
theorem ac_rule(hg:InG g){f d u:List Int}(h:Dv g f d u):∀(a:Int) (r i:Nat) (st:List (Int × Int)) (v:List Int),r<g.rules.length→i≤(rgt g r).length→f=(rgt g r).drop i→Rt g a r st v→Ac g ⟨a,(r:Nat),(i:Nat),st⟩ (u++v):=by
 induction h with
 | nil =>
  intro a r i st v hr hi hf hv
  have hil:i=(rgt g r).length:=by
   have:=congrArg List.length hf
   rw[List.length_drop]at this
   simp at this;omega
  subst hil
  rcases hv with⟨rfl,hv⟩|⟨st0,s,rfl,hv⟩
  ·exact hv
  ·exact .step (step_pop hr) hv
 | @term s l d w hs k ih =>
  intro a r i st v hr hi hf hv
  have hil:i<(rgt g r).length:=by
   apply Classical.byContradiction
   intro hc
   rw[List.drop_of_length_le (by omega)]at hf
   cases hf
  rw[List.drop_eq_getElem_cons hil]at hf
  obtain⟨e1,e2⟩:=List.cons.inj hf
  refine .read (by omega) (next_term hr hil e1.symm hs) ?_
  have:=ih a r (i+1) st v hr hil e2 hv
  exact this
 | @var k l d1 d2 w1 w2 hk x y ihx ihy =>
  intro a r i st v hr hi hf hv
  have hil:i<(rgt g r).length:=by
   apply Classical.byContradiction
   intro hc
   rw[List.drop_of_length_le (by omega)]at hf
   cases hf
  rw[List.drop_eq_getElem_cons hil]at hf
  obtain⟨e1,e2⟩:=List.cons.inj hf
  have h0:0≤lft g k:=by rw[lft_eq hk];exact hg.left0 _ (List.getElem_mem hk)
  refine .step (step_in hr hil hk h0 e1.symm) ?_
  rw[List.append_assoc]
  by_cases hc:st=[]∨i+1<(rgt g r).length
  ·rw[if_pos hc]
   exact ihx a k 0 _ _ hk (Nat.zero_le _) (by rw[List.drop_zero]) (.inr ⟨st,_,rfl,ihy a r (i+1) st v hr hil e2 hv⟩)
  ·rw[if_neg hc]
   have hl:l=[]:=by rw[e2];exact List.drop_of_length_le (by omega)
   rw[hl]at y
   obtain⟨_,rfl⟩:=y.nil_inv
   rcases hv with⟨h,_⟩|⟨st0,s,h,hv⟩
   ·exact absurd (.inl h) hc
   ·exact ihx a k 0 _ _ hk (Nat.zero_le _) (by rw[List.drop_zero]) (.inr ⟨st0,s,h,hv⟩)
inductive Cx(g:Gram):Int→List Int→Prop where
 | root:Cx g 0 []
 | sub {k j:Nat} {F:List Int} (hk:k<g.rules.length) (hj:j<(rgt g k).length) (h:Cx g (lft g k) F):Cx g (rgt g k)[j] ((rgt g k).drop (j+1)++F)
theorem ac_end(hg:InG g){A:Int}{F:List Int}(h:Cx g A F):∀(d y:List Int),Dv g F d y→∀(a:Int) (r:Nat),r<g.rules.length→lft g r=A→Ac g ⟨a,(r:Nat),((rgt g r).length:Nat),[]⟩ y:=by
 induction h with
 | root =>
  intro d y hd a r hr hl
  obtain⟨_,rfl⟩:=hd.nil_inv
  exact .step (step_end hr hl) (.fin rfl)
 | @sub k j F hk hj h ih =>
  intro d y hd a r hr hl
  obtain⟨d1,d2,y1,y2,rfl,rfl,h1,h2⟩:=hd.split rfl
  refine .step (step_call hr ⟨?_,?_⟩ hk hj hl.symm) ?_
  ·rw[lft_eq hr];exact hg.left0 _ (List.getElem_mem hr)
  ·rw[lft_eq hr];exact hg.left1 _ (List.getElem_mem hr)
  ·exact ac_rule hg h1 a k (j+1) [] y2 hk hj rfl (.inl ⟨rfl,ih d2 y2 h2 a k hk rfl⟩)
theorem prd_dv{v:Int}(h:Prd g v):∃d w,Dv g [v] d w:=by
 induction h with
 | mk i h h1 ih =>
  have key:∀l:List Int,(∀s∈l,0≤s→∃d w,Dv g [s] d w)→∃d w,Dv g l d w:=by
   intro l
   induction l with
   | nil=>exact fun _=>⟨_,_,.nil⟩
   | cons s l ihl =>
    intro hl
    obtain⟨d2,w2,k2⟩:=ihl fun x hx=>hl x (List.mem_cons_of_mem _ hx)
    by_cases h0:0≤s
    ·obtain⟨d1,w1,k1⟩:=hl s (List.mem_cons_self ..) h0
     exact⟨_,_,k1.append k2⟩
    ·exact⟨_,_,.term (by omega) k2⟩
  obtain⟨d,w,k⟩:=key _ ih
  have:=Dv.one h (by rw[rgt_eq h];exact k)
  rw[lft_eq h]at this
  exact⟨_,_,this⟩
theorem form_dv:∀{l:List Int},(∀s∈l,0≤s→Prd g s)→∃d w,Dv g l d w
 | [],_=>⟨_,_,.nil⟩
 | s::l,h=>by
  obtain⟨d2,w2,k2⟩:=form_dv (l:=l) fun x hx=>h x (List.mem_cons_of_mem _ hx)
  by_cases h0:0≤s
  ·obtain⟨d1,w1,k1⟩:=prd_dv (h s (List.mem_cons_self ..) h0)
   exact⟨_,_,k1.append k2⟩
  ·exact⟨_,_,.term (by omega) k2⟩
theorem usd_cx{v:Int}(h:Usd g v):∃F,Cx g v F∧∀s∈F,0≤s→Prd g s:=by
 induction h with
 | base h=>exact⟨[],.root,fun s hs=>by cases hs⟩
 | @step i h hu hp s hs h0 ih =>
  obtain⟨F,hF,hP⟩:=ih
  obtain⟨j,hj,e⟩:=List.getElem_of_mem hs
  have hj':j<(rgt g i).length:=by rw[rgt_eq h];exact hj
  have:=Cx.sub h hj' (by rw[lft_eq h];exact hF)
  have e1:(rgt g i)[j]=s:=by rw[←e];simp only[rgt_eq h]
  rw[e1]at this
  refine⟨_,this,fun x hx h0=>?_⟩
  rcases List.mem_append.1 hx with h1|h1
  ·exact hp x (by rw[←rgt_eq h];exact List.mem_of_mem_drop h1) h0
  ·exact hP x h1 h0
def LL'(g:Gram)(r:Nat)(z:List Int):Prop:=∃d w F e y,Dv g (rgt g r) d w∧Cx g (lft g r) F∧Dv g F e y∧z=w++y
def c0(r:Nat):Cfg:=⟨(r:Nat),(r:Nat),((0:Nat):Int),[]⟩
theorem ll_ac(hg:InG g){r:Nat}(hr:r<g.rules.length){z:List Int}(h:LL' g r z):Ac g (c0 r) z:=by
 obtain⟨d,w,F,e,y,h1,h2,h3,rfl⟩:=h
 exact ac_rule hg h1 r r 0 [] y hr (Nat.zero_le _) (by rw[List.drop_zero]) (.inl ⟨rfl,ac_end hg h2 _ _ h3 r r hr rfl⟩)
end Go.Proofs.YtigijncdfkbaoaaGreatDoor

namespace Go.Proofs.YtigijncdfkbaoaaGreatDoor
open Go.AM Go.AM.Fo
set_option maxRecDepth 100000
theorem start_ne{g:Gram}{v:Int}{dp pl:Nat}{C:List Cfg}(ok:RightOK g)(hu:AllUse g)(h0:0≤v)(hv:v<g.vars.length)(hC:ClS g dp pl ((startL g v).map (·.1)) C):∃c,c∈C:=by
 have hg:=ok.inG
 obtain⟨r,hr,hl⟩:∃r:Nat,∃h:r<g.rules.length,g.rules[r].left=v:=by
  have h:=ok.count v.toNat (by omega)
  unfold countR at h
  obtain⟨x,hx⟩:=List.exists_mem_of_length_pos (Nat.pos_of_ne_zero h)
  obtain⟨h1,h2⟩:=List.mem_filter.1 hx
  obtain⟨r,hr,e⟩:=List.getElem_of_mem h1
  refine⟨r,hr,?_⟩
  rw[e,of_decide_eq_true h2]
  omega
 obtain⟨hU,hP⟩:=hu _ (List.getElem_mem hr)
 obtain⟨F,hF,hFP⟩:=usd_cx hU
 obtain⟨d1,w1,k1⟩:=form_dv hP
 obtain⟨d2,w2,k2⟩:=form_dv hFP
 obtain⟨c',h1,_,h3⟩:=(ll_ac hg hr ⟨d1,w1,F,d2,w2,by rw[rgt_eq hr];exact k1,by rw[lft_eq hr];exact hF,k2,rfl⟩).run
 obtain⟨_,_,_,_,hm⟩:=hC
 refine⟨c',(hm c').2 ⟨h1 _ (.base ?_),?_⟩⟩
 ·rw[startL_map ok v]
  refine List.mem_map.2 ⟨r,?_,rfl⟩
  unfold ruleIx
  rw[List.mem_filter,List.mem_range,List.getElem?_eq_getElem hr]
  exact⟨hr,by simp[hl]⟩
 ·unfold idle
  rcases h3 with⟨_,h3⟩|⟨t,u',_,h4,h3,_⟩ <;> rw[h3] <;> simp <;> omega
theorem start_0{g:Gram}{v q:Int}{dp pl:Nat}{d:DS}(ok:RightOK g)(hu:AllUse g)(h0:0≤v)(hv:v<g.vars.length)(h:Tr g dp pl d ((startL g v).map (·.1)) q)(hq:q = -1∨q=0):q=0:=by
 obtain⟨C,hC,R,hR,h⟩:=h
 obtain⟨c,hc⟩:=start_ne ok hu h0 hv hC
 rcases h with⟨rfl,_⟩|h
 ·have:=(hR.2 c.alt).2 (List.mem_map.2 ⟨c,hc,rfl⟩)
  cases this
 ·rcases hq with rfl|h'
  ·rcases h with⟨_,_,_,_,h,_⟩|⟨_,_,h,_⟩ <;> omega
  ·exact h'
set_option maxHeartbeats 16000000 in
theorem runs_gives{vg:Value}{g:Gram}{v zd:Int}{pw:Option Addr}{w:List Int}{n:Nat}{H:Heap}(hw:WF n H)(hg:RG H vg g)(wg:WG g)(hpw:RA (Value.int .i64) H pw w) :
  Gives Tryz.prog 3 [vg,.int .i64 v,.int .i64 zd,.slice pw w.length w.length] n H fun r _ _=>r=.bool true:=by
 have hg0:=hg
 obtain⟨pt,pv,pr,rfl,ht,hvs,hr⟩:=hg
 refine Gives.of orders ok3 (Nat.le_of_ble_eq_true rfl) ?_
 have g2:((gcells pt pv pr g).drop 0).take 3=gcells pt pv pr g:=rfl
 have g3:(gcells pt pv pr g).length=3:=rfl
 repeat refine qqn rfl ?_
 (refine qqr ?_;simp only[SS,qx15,vun,simprocAttr,abox,box_cells,box_one,ff_3])
 have k1:=Kp.new n H (.cells (gcells pt pv pr g) 25 true)
 have hG:=hset_at H n (.cells (gcells pt pv pr g) 25 true)
 generalize hset H n (.cells (gcells pt pv pr g) 25 true)=H1 at *
 have hw1:=k1.wf hw
 have hg1:RG H1 (.agg (gcells pt pv pr g).toArray) g:=hg0.mono hw k1
 repeat (first|refine qqm rfl ?_|((first|refine qqr ?_|refine qqt ?_);simp only[SS,qx15,vun,simprocAttr,ff_3]))
 refine AtCall.by (alive_gives _ _) ?_
 rintro _ n2 H2 k2 ⟨rfl,hn2,hH2⟩
 subst hn2
 obtain rfl:=hH2.symm
 simp only[SS,qx15,vun,simprocAttr,ff_3]
 repeat (first|refine qqm rfl ?_|((first|refine qqr ?_|refine qqt ?_);simp only[SS,qx15,vun,simprocAttr,hG,g2,g3,ff_3]))
 refine AtCall.by (whole12_gives hw1 hg1 wg) ?_
 rintro _ n3 H3 k3 ⟨t,rfl,ht0⟩
 have hw3:=k3.wf hw1
 have hle3:=k3.le
 have k13:=k1.trans k3
 have hG3:=(k3.keep n (by omega)).trans hG
 rcases ht0 with rfl|⟨rfl,okx,hfew,hall⟩
 ·simp only[SS,qx15,vun,simprocAttr,decide_true,ff_3]
  repeat (first|refine qqm rfl ?_|((first|refine qqr ?_|refine qqt ?_);simp only[SS,qx15,vun,simprocAttr,ff_3]))
  first|refine qqf ?_ ?_|refine qqg ?_ ?_
  ·exact k13.keep
  ·simp only[packed,qv,Nat.reduceEqDiff,↓reduceIte,ff_3]
 have ok:=okx.toRightOK
 unfold few at hfew
 simp only[Bool.and_eq_true,decide_eq_true_eq,List.all_eq_true]at hfew
 obtain⟨⟨⟨fw1,fw2⟩,fw3⟩,fw4⟩:=hfew
 have h10:((1:Int)=0)=False:=eq_false (by decide)
 by_cases hwl:8<w.length
 ·have hwl':((8:Int)<(w.length:Int))=True:=eq_true (by omega)
  simp only[SS,qx15,vun,simprocAttr,h10,hwl',decide_true,decide_false,ff_3]
  repeat (first|refine qqm rfl ?_|((first|refine qqr ?_|refine qqt ?_);simp only[SS,qx15,vun,simprocAttr,ff_3]))
  first|refine qqf ?_ ?_|refine qqg ?_ ?_
  ·exact k13.keep
  ·simp only[packed,qv,Nat.reduceEqDiff,↓reduceIte,ff_3]
 have hwl':((8:Int)<(w.length:Int))=False:=eq_false (by omega)
 obtain⟨dp,hdp,hjw⟩:=low_mask zd 7 (by omega)
 have hjw':IntKind.i64.wrap ((BitVec.ofInt IntKind.i64.bits zd &&& BitVec.ofInt IntKind.i64.bits 7).toNat:Int)=(dp:Int):=hjw
 simp only[SS,qx15,vun,simprocAttr,h10,hwl',decide_false,ff_3]
 repeat (first|refine qqm rfl ?_|((first|refine qqr ?_|refine qqt ?_);simp only[SS,qx15,vun,simprocAttr,hG3,g2,g3,hjw',ff_3]))
 refine AtCall.by (build_gives (dp:=dp) (pl:=60) (st:=40) hw3 (hg0.mono hw k13) wg ok (by omega) (by omega) (by omega) (by omega)) ?_
 rintro _ n4 H4 k4 ⟨dv,b,N,R,rfl,hrd,hlN,hbf,hbt⟩
 have hw4:=k4.wf hw3
 have hle4:=k4.le
 have k14:=k13.trans k4
 have hG4:=(k4.keep n (by omega)).trans hG3
 obtain⟨a,bb,rfl,hN,hR⟩:=hrd
 have sp2:∀x y:Value,AM.splice [x,y] 0 (acells a bb N R)=acells a bb N R:=fun _ _=>rfl
 have kD:=Kp.new n4 H4 (.cells (acells a bb N R) 31 true)
 have hDb:=hset_at H4 n4 (.cells (acells a bb N R) 31 true)
 have hG5:=(kD.keep n (by omega)).trans hG4
 have hge:(v<0)=True∨(v<0)=False∧((g.vars.length:Int)≤v)=True∨(v<0)=False∧((g.vars.length:Int)≤v)=False:=by
  by_cases h:v<0
  ·exact .inl (eq_true h)
  ·by_cases h2:(g.vars.length:Int)≤v
   ·exact .inr (.inl ⟨eq_false h,eq_true h2⟩)
   ·exact .inr (.inr ⟨eq_false h,eq_false h2⟩)
 simp only[SS,qx15,vun,simprocAttr,List.toList_toArray,ff_3]
 cases b with
 | false =>
  obtain⟨rfl,rfl⟩:=hbf rfl
  have k0:(((0:Nat):Int)=0)=True:=eq_true rfl
  rcases hge with v0|⟨v0,v1⟩|⟨v0,v1⟩
  ·repeat (first|refine qqm rfl ?_|((first|refine qqr ?_|refine qqt ?_);simp only[SS,qx15,vun,simprocAttr,abox_cells,abox_one,ac_len,ac_0,sp2,hset_at,hDb,hG5,gc_1,gc_len,v0,k0,decide_true,decide_false,Bool.not_false,ff_3]))
   first|refine qqf ?_ ?_|refine qqg ?_ ?_
   ·exact fun z hz=>(kD.keep z (by omega)).trans (k14.keep z hz)
   ·simp only[packed,qv,Nat.reduceEqDiff,↓reduceIte,ff_3]
  ·repeat (first|refine qqm rfl ?_|((first|refine qqr ?_|refine qqt ?_);simp only[SS,qx15,vun,simprocAttr,abox_cells,abox_one,ac_len,ac_0,sp2,hset_at,hDb,hG5,gc_1,gc_len,v0,v1,k0,decide_true,decide_false,Bool.not_false,ff_3]))
   first|refine qqf ?_ ?_|refine qqg ?_ ?_
   ·exact fun z hz=>(kD.keep z (by omega)).trans (k14.keep z hz)
   ·simp only[packed,qv,Nat.reduceEqDiff,↓reduceIte,ff_3]
  ·repeat (first|refine qqm rfl ?_|((first|refine qqr ?_|refine qqt ?_);simp only[SS,qx15,vun,simprocAttr,abox_cells,abox_one,ac_len,ac_0,ac_1,sp2,hset_at,hDb,hG5,gc_1,gc_len,v0,v1,k0,decide_true,decide_false,Bool.not_false,ff_3]))
   first|refine qqf ?_ ?_|refine qqg ?_ ?_
   ·exact fun z hz=>(kD.keep z (by omega)).trans (k14.keep z hz)
   ·simp only[packed,qv,Nat.reduceEqDiff,↓reduceIte,ff_3]
 | true =>
  obtain⟨hv0,hv1,d,q,rfl,rfl,hA,hT,hq⟩:=hbt rfl
  obtain rfl:=start_0 ok hall hv0 hv1 hT hq
  obtain⟨C,hC,hTo⟩:=hT
  obtain⟨e1,u,hru,hD⟩:=run_to (w:=w) ok.inG hA.ln hA.lr hA.rw hA.dn (w.length+2) 0 _ C 0 hC hTo (by omega) (by omega) (by omega)
  have v0:(v<0)=False:=eq_false (by omega)
  have v1:((g.vars.length:Int)≤v)=False:=eq_false (by omega)
  clear hge
  repeat (first|refine qqm rfl ?_|((first|refine qqr ?_|refine qqt ?_);simp only[SS,qx15,vun,simprocAttr,abox_cells,abox_one,ac_len,ac_all,sp2,hset_at,hDb,hG5,gc_1,gc_len,v0,v1,decide_true,decide_false,ff_3]))
  generalize hset H4 n4 (.cells (acells a bb (d.rows.map (·.2)) d.rules) 31 true)=H5 at *
  have hw5:=kD.wf hw4
  have k15:=k14.trans kD
  have hrd5:RD H5 (.agg (acells a bb (d.rows.map (·.2)) d.rules).toArray) (d.rows.map (·.2)) d.rules:=⟨a,bb,rfl,hN.mono hw4 kD,hR.mono hw4 kD⟩
  refine AtCall.by (run_gives hw5 hrd5 (hpw.mono hw k15) (by omega) fun l hl=>by have:=hlN l hl;omega) ?_
  rintro _ n6 H6 k6 rfl
  have hw6:=k6.wf hw5
  have hle6:=k6.le
  have k16:=k15.trans k6
  have hG6:=(k6.keep n (by omega)).trans hG5
  have hru2:runF (d.rows.map (·.2)) d.rules w (w.length+2) 0 0=(e1,u):=hru
  simp only[SS,qx15,vun,simprocAttr,List.toList_toArray,hru2,ff_3]
  repeat (first|refine qqm rfl ?_|((first|refine qqr ?_|refine qqt ?_);simp only[SS,qx15,vun,simprocAttr,hG6,g2,g3,ff_3]))
  refine AtCall.by (run15_gives (dp:=dp) (pl:=60) hw6 (hg0.mono hw k16) ok (hpw.mono hw k16) (by omega) (by omega) (by omega) hD) ?_
  rintro _ n7 H7 k7 rfl
  have hee:(e1=e1)=True:=eq_self _
  have heu:((u:Int)=(u:Int))=True:=eq_self _
  simp only[SS,qx15,vun,simprocAttr,List.toList_toArray,ff_3]
  repeat (first|refine qqm rfl ?_|((first|refine qqr ?_|refine qqt ?_);simp only[SS,qx15,vun,simprocAttr,hee,heu,decide_true,ff_3]))
  first|refine qqf ?_ ?_|refine qqg ?_ ?_
  ·exact(k16.trans k7).keep
  ·simp only[packed,qv,Nat.reduceEqDiff,↓reduceIte,ff_3]
end Go.Proofs.YtigijncdfkbaoaaGreatDoor
