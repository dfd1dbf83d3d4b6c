/- A part of a proof. Its conditions: none. -/
import Derived.Test.YtjlgpanihjnaeaaGreatDoorAmXMbClass
set_option linter.all false
namespace Go.Proofs.YtjlgpanihjnaeaaGreatDoor
open Go.AM
set_option maxRecDepth 100000
def natI(q:Nat):Value:=.int .i64 (q:Int)
theorem set_row(A:List Int)(m:Nat)(v:Int):((A++List.replicate (m+1) 0).map (Value.int .i64)).set A.length (Value.int .i64 v)=((A++[v])++List.replicate m 0).map (Value.int .i64):=by
 rw[←List.map_set]
 congr 1
 rw[List.set_append_right _ _ (Nat.le_refl _),Nat.sub_self,List.replicate_succ,List.set_cons_zero,List.append_assoc];rfl
theorem aop_insert{P:Program}{n:Nat}{H:Heap}{ρ:Operand→Value}{d:Option Nat}{t:TypeId}{m k x:Operand}{ty:TypeId}{p:String}{af:Array Edge}{gd:Option (Nat × Bool)} :
  aop P ρ n H ⟨d,.insert t m k x,ty,p,af,gd⟩=amapset P t H (ρ m) (ρ k) (ρ x):=rfl
theorem load_dfa{H:Heap}{x:Nat}{cs:List Value}{ty:TypeId}{own:Bool}(h:H x=.cells cs ty own)(hl:cs.length=2):aload Tryz.prog 31 H (.pointer (some ⟨x,0,none⟩))=some { v:=.agg cs.toArray,rd:=[x] }:=by
 have h1:aggT Tryz.prog 31=some true:=by kernel_rfl
 have h2:Tryz.prog.cellsOf 31=2:=by kernel_rfl
 unfold aload
 simp only[h,h1,h2]
 rw[if_pos (by omega),List.drop_zero,List.take_of_length_le (by omega)]
theorem res_dfa{f:Fr}{n:Nat}{H:Heap}{x:Nat}{cs:List Value}{ty:TypeId}{own:Bool}(hf:f 2=.pointer (some ⟨x,0,none⟩))(h:H x=.cells cs ty own)(hl:cs.length=2):aresultsL Tryz.prog ⟨f,n,H⟩ Tryz.f8.results.toList=some [.agg cs.toArray]:=by
 have hr:Tryz.f8.results.toList=[.cell 2 31]:=rfl
 rw[hr]
 unfold aresultsL aresult
 simp only[hf,load_dfa h hl]
 rfl
set_option maxHeartbeats 8000000 in
theorem least_gives{v:Value}{N:List (List Int)}{R:List Int}{n0:Nat}{H0:Heap}(hw0:WF n0 H0)(ht0:Tens H0)(hd:RD H0 v N R)(ws:WA N R)(hRs:∀y∈R,y<100)(hN:N.length≤99)(hwl:(N.getD 0 []).length≤1000) :
  Gives Tryz.prog 8 [v] n0 H0 fun v _ H'=>∃M Q,RD H' v M Q∧(Mini.rightB N R=false→M=[]∧Q=[])∧(Mini.rightB N R=true→Mini.Least N R (N.getD 0 []).length M Q):=by
 have hd0:=hd
 obtain⟨a,b,rfl,hN0,hR0⟩:=hd
 refine Gives.of orders ok8 (Nat.le_of_ble_eq_true rfl) ?_
 have hk:=(Kp.new n0 H0 (.cells (acells a b N R) 31 true)).trans (Kp.new (n0+1) (hset H0 n0 (.cells (acells a b N R) 31 true)) (.cells [.slice none 0 0,.slice none 0 0] 31 true))
 have hb:hset (hset H0 n0 (.cells (acells a b N R) 31 true)) (n0+1) (.cells [.slice none 0 0,.slice none 0 0] 31 true) n0=.cells (acells a b N R) 31 true:=(hset_ne _ _ _ (by omega)).trans (hset_at _ _ _)
 have hres:=hset_at (hset H0 n0 (.cells (acells a b N R) 31 true)) (n0+1) (.cells [.slice none 0 0,.slice none 0 0] 31 true)
 repeat (first|apply WK.seq|apply WK.block|apply WK.skipSeq|apply WK.skipBlock|apply WK.retSeq|apply WK.retBlock|apply WK.exitSeq|apply WK.exitHere|refine WK.exitOn rfl ?_)
 (refine WK.rgn ?_ ?_;kernel_rfl;simp (config:={ maxSteps:=1000000 }) only[SS,qx15,forall_const,vun,tap,tap2,tap3,tap4,tsrc,tsrc2,Int.reduceEq,Int.reduceNeg,Nat.reduceGT,Nat.reduceLT,Nat.reduceLeDiff,Nat.reduceEqDiff,↓reduceIte,reduceCtorEq,Int.reduceToNat,Int.reduceLE,Int.reduceLT,Nat.reduceAdd,Nat.reduceMul,abox,abox_cells,abox_one,ff_8])
 repeat (first|apply WK.seq|apply WK.block|apply WK.skipSeq|apply WK.skipBlock|apply WK.retSeq|apply WK.retBlock|apply WK.exitSeq|apply WK.exitHere|refine WK.exitOn rfl ?_)
 generalize hset (hset H0 n0 (.cells (acells a b N R) 31 true)) (n0+1) (.cells [.slice none 0 0,.slice none 0 0] 31 true)=H1 at *
 have hd1:=hd0.mono hw0 hk
 have hw1:=hk.wf hw0
 repeat (first|apply WK.seq|apply WK.block|apply WK.skipSeq|apply WK.skipBlock|apply WK.retSeq|apply WK.retBlock|apply WK.exitSeq|apply WK.exitHere|refine WK.exitOn rfl ?_|((first|(refine WK.rgn ?_ ?_;kernel_rfl)|refine AtCall.now ?_);simp (config:={ maxSteps:=1000000 }) only[SS,qx15,forall_const,vun,tap,tap2,tap3,tap4,tsrc,tsrc2,Int.reduceEq,Int.reduceNeg,Nat.reduceGT,Nat.reduceLT,Nat.reduceLeDiff,Nat.reduceEqDiff,↓reduceIte,reduceCtorEq,Int.reduceToNat,Int.reduceLE,Int.reduceLT,Nat.reduceAdd,Nat.reduceMul,hb,ac_all,ac_len,ff_8])|(refine WK.condT ?_ ?_;focus (simp only[ev_tmp,ev_const,fset_apply,Nat.reduceEqDiff,↓reduceIte,decide_true,decide_false,hb,ac_all,ac_len,ff_8];done))|(refine WK.condF ?_ ?_;focus (simp only[ev_tmp,ev_const,fset_apply,Nat.reduceEqDiff,↓reduceIte,decide_true,decide_false,hb,ac_all,ac_len,ff_8];done)))
 refine AtCall.by (mright_gives hw1 hd1 ws) ?_
 rintro v n2 H2 k2 rfl
 have hle2:=k2.le
 cases hri:Mini.rightB N R with
 | false =>
  have hres2:=(k2.keep (n0+1) (by omega)).trans hres
  simp (config:={ maxSteps:=1000000 }) only[SS,qx15,forall_const,vun,tap,tap2,tap3,tap4,tsrc,tsrc2,Int.reduceEq,Int.reduceNeg,Nat.reduceGT,Nat.reduceLT,Nat.reduceLeDiff,Nat.reduceEqDiff,↓reduceIte,reduceCtorEq,Int.reduceToNat,Int.reduceLE,Int.reduceLT,Nat.reduceAdd,Nat.reduceMul,hres2,ff_8]
  repeat (first|apply WK.seq|apply WK.block|apply WK.skipSeq|apply WK.skipBlock|apply WK.retSeq|apply WK.retBlock|apply WK.exitSeq|apply WK.exitHere|refine WK.exitOn rfl ?_|((first|(refine WK.rgn ?_ ?_;kernel_rfl)|refine AtCall.now ?_);simp (config:={ maxSteps:=1000000 }) only[SS,qx15,forall_const,vun,tap,tap2,tap3,tap4,tsrc,tsrc2,Int.reduceEq,Int.reduceNeg,Nat.reduceGT,Nat.reduceLT,Nat.reduceLeDiff,Nat.reduceEqDiff,↓reduceIte,reduceCtorEq,Int.reduceToNat,Int.reduceLE,Int.reduceLT,Nat.reduceAdd,Nat.reduceMul,hres2,ff_8])|(refine WK.condT ?_ ?_;focus (simp only[ev_tmp,ev_const,fset_apply,Nat.reduceEqDiff,↓reduceIte,decide_true,decide_false,hres2,ff_8];done))|(refine WK.condF ?_ ?_;focus (simp only[ev_tmp,ev_const,fset_apply,Nat.reduceEqDiff,↓reduceIte,decide_true,decide_false,hres2,ff_8];done)))
  have hx:=hset_at H2 (n0+1) (.cells [.slice none 0 0,.slice none 0 0] 31 true)
  refine WK.retNil ⟨Or.inr rfl,_,res_dfa ?_ hx rfl,fun z hz=>?_,?_⟩
  ·simp only[packed,fset_apply,Nat.reduceEqDiff,↓reduceIte,List.getD_cons_zero,List.getD_cons_succ,ff_8]
  ·show hset H2 (n0+1) _ z=H0 z
   rw[hset_ne _ _ _ (by omega),k2.keep z (by omega)];exact hk.keep z hz
  ·exact⟨[],[],⟨none,none,rfl,R2.nil,fun h=>absurd rfl h⟩,⟨rfl,rfl⟩,fun h=>h.elim⟩
 | true =>
  have hb2:=(k2.keep n0 (by omega)).trans hb
  have hres2:=(k2.keep (n0+1) (by omega)).trans hres
  have ok:=(Mini.rightB_iff N R).1 hri
  simp (config:={ maxSteps:=1000000 }) only[SS,qx15,forall_const,vun,tap,tap2,tap3,tap4,tsrc,tsrc2,Int.reduceEq,Int.reduceNeg,Nat.reduceGT,Nat.reduceLT,Nat.reduceLeDiff,Nat.reduceEqDiff,↓reduceIte,reduceCtorEq,Int.reduceToNat,Int.reduceLE,Int.reduceLT,Nat.reduceAdd,Nat.reduceMul,hb2,ac_all,ac_len,ff_8]
  repeat (first|apply WK.seq|apply WK.block|apply WK.skipSeq|apply WK.skipBlock|apply WK.retSeq|apply WK.retBlock|apply WK.exitSeq|apply WK.exitHere|refine WK.exitOn rfl ?_|((first|(refine WK.rgn ?_ ?_;kernel_rfl)|refine AtCall.now ?_);simp (config:={ maxSteps:=1000000 }) only[SS,qx15,forall_const,vun,tap,tap2,tap3,tap4,tsrc,tsrc2,Int.reduceEq,Int.reduceNeg,Nat.reduceGT,Nat.reduceLT,Nat.reduceLeDiff,Nat.reduceEqDiff,↓reduceIte,reduceCtorEq,Int.reduceToNat,Int.reduceLE,Int.reduceLT,Nat.reduceAdd,Nat.reduceMul,hb2,ac_all,ac_len,ff_8])|(refine WK.condT ?_ ?_;focus (simp only[ev_tmp,ev_const,fset_apply,Nat.reduceEqDiff,↓reduceIte,decide_true,decide_false,hb2,ac_all,ac_len,ff_8];done))|(refine WK.condF ?_ ?_;focus (simp only[ev_tmp,ev_const,fset_apply,Nat.reduceEqDiff,↓reduceIte,decide_true,decide_false,hb2,ac_all,ac_len,ff_8];done)))
  have hw2:=k2.wf hw1
  have kA:=hk.trans k2
  refine AtCall.by (classes_gives hw2 (ht0.kp hw0 kA) (hd0.mono hw0 kA) ok ws hRs hN hwl) ?_
  rintro v n3 H3 k3 ⟨kx,K,rfl,hkx,hKc,hKl,hKb,hcls⟩
  have hle3:=k3.le
  have hw3:=k3.wf hw2
  have hb3:=(k3.keep n0 (by omega)).trans hb2
  have hres3:=(k3.keep (n0+1) (by omega)).trans hres2
  have hpos:=ok.pos
  have hK0:=ints_at (K:=K) (i:=0) (by omega)
  have hkl0:((0:Int)<(K.length:Int))=True:=by simp only[eq_iff_iff,iff_true];omega
  have kB:=kA.trans k3
  have hkx3:kx<n3:=live_lt0 hw3 (by rw[hKc];intro e;cases e)
  simp (config:={ maxSteps:=1000000 }) only[SS,qx15,forall_const,vun,tap,tap2,tap3,tap4,tsrc,tsrc2,Int.reduceEq,Int.reduceNeg,Nat.reduceGT,Nat.reduceLT,Nat.reduceLeDiff,Nat.reduceEqDiff,↓reduceIte,reduceCtorEq,Int.reduceToNat,Int.reduceLE,Int.reduceLT,Nat.reduceAdd,Nat.reduceMul,hKc,hK0,hkl0,ff_8]
  repeat (first|apply WK.seq|apply WK.block|apply WK.skipSeq|apply WK.skipBlock|apply WK.retSeq|apply WK.retBlock|apply WK.exitSeq|apply WK.exitHere|refine WK.exitOn rfl ?_)
  have e1:=hset_at H3 n3 (.cells [.slice none 0 0,.slice none 0 0] 31 true)
  have q1:∀ob,hset H3 n3 ob kx=H3 kx:=fun ob=>hset_ne _ _ _ (by omega)
  have q2:∀H' ob,hset H' (n3+1) ob kx=H' kx:=fun H' ob=>hset_ne _ _ _ (by omega)
  have gkI':=gkI und_int
  have hin:∀s,s<N.length→inI (Mini.at1 K s):=fun s hs=>by have:=hKb s hs;unfold inI;omega
  have hput:amapset Tryz.prog 57 (hset (hset H3 n3 (.cells [.slice none 0 0,.slice none 0 0] 31 true)) (n3+1) (.map [] 0 3)) (.map (some (n3+1))) (.int .i64 (Mini.at1 K 0)) (.int .i64 0)=some { v:=undef,wr:=some (n3+1,.map (gE (Value.int .i64) [Mini.at1 K 0] 0) 1 3) } :=
   gkI'.put (ks:=[]) (hin 0 hpos) (fun a h=>by cases h) (by simp) und_mi (hset_at _ _ _)
  repeat (first|apply WK.seq|apply WK.block|apply WK.skipSeq|apply WK.skipBlock|apply WK.retSeq|apply WK.retBlock|apply WK.exitSeq|apply WK.exitHere|refine WK.exitOn rfl ?_|((first|(refine WK.rgn ?_ ?_;kernel_rfl)|refine AtCall.now ?_);simp (config:={ maxSteps:=1000000 }) only[SS,qx15,forall_const,vun,tap,tap2,tap3,tap4,tsrc,tsrc2,Int.reduceEq,Int.reduceNeg,Nat.reduceGT,Nat.reduceLT,Nat.reduceLeDiff,Nat.reduceEqDiff,↓reduceIte,reduceCtorEq,Int.reduceToNat,Int.reduceLE,Int.reduceLT,Nat.reduceAdd,Nat.reduceMul,hKc,hK0,hkl0,q1,q2,aop_makemap,amake,und_mi,hput,aop_insert,ff_8])|(refine WK.condT ?_ ?_;focus (simp only[ev_tmp,ev_const,fset_apply,Nat.reduceEqDiff,↓reduceIte,decide_true,decide_false,hKc,hK0,hkl0,q1,q2,aop_makemap,amake,und_mi,hput,aop_insert,ff_8];done))|(refine WK.condF ?_ ?_;focus (simp only[ev_tmp,ev_const,fset_apply,Nat.reduceEqDiff,↓reduceIte,decide_true,decide_false,hKc,hK0,hkl0,q1,q2,aop_makemap,amake,und_mi,hput,aop_insert,ff_8];done)))
  have i1:hset (hset (hset H3 n3 (.cells [.slice none 0 0,.slice none 0 0] 31 true)) (n3+1) (.map (gE (Value.int .i64) [Mini.at1 K 0] 0) 1 3)) (n3+1+1) (.cells [.int .i64 0] 3 true) n3=.cells [sl 0 0,sl 0 0] 31 true:=(hset_ne _ _ _ (by omega)).trans ((hset_ne _ _ _ (by omega)).trans e1)
  have i2:hset (hset (hset H3 n3 (.cells [.slice none 0 0,.slice none 0 0] 31 true)) (n3+1) (.map (gE (Value.int .i64) [Mini.at1 K 0] 0) 1 3)) (n3+1+1) (.cells [.int .i64 0] 3 true) (n3+1)=.map (gE (Value.int .i64) ([0].map (Mini.at1 K)) 0) 1 3:=(hset_ne _ _ _ (by omega)).trans (hset_at _ _ _)
  have i3:hset (hset (hset H3 n3 (.cells [.slice none 0 0,.slice none 0 0] 31 true)) (n3+1) (.map (gE (Value.int .i64) [Mini.at1 K 0] 0) 1 3)) (n3+1+1) (.cells [.int .i64 0] 3 true) (n3+1+1)=.cells ([0].map natI) 3 true:=hset_at _ _ _
  have i4:Kp n3 H3 (n3+1+1+1) (hset (hset (hset H3 n3 (.cells [.slice none 0 0,.slice none 0 0] 31 true)) (n3+1) (.map (gE (Value.int .i64) [Mini.at1 K 0] 0) 1 3)) (n3+1+1) (.cells [.int .i64 0] 3 true)):=((Kp.new _ _ _).trans (Kp.new _ _ _)).trans (Kp.new _ _ _)
  generalize hset (hset (hset H3 n3 (.cells [.slice none 0 0,.slice none 0 0] 31 true)) (n3+1) (.map (gE (Value.int .i64) [Mini.at1 K 0] 0) 1 3)) (n3+1+1) (.cells [.int .i64 0] 3 true)=H4 at *
  obtain⟨w,hw⟩:∃w,w=(N.getD 0 []).length:=⟨_,rfl⟩
  rw[←hw]at ok hwl hcls ⊢
  clear hput q1 q2 e1
  refine WK.loop (fun kk s=>∃(i yf yn yq:Nat) (ys:Nat→Nat) (fr:List Nat) (rows:List (List Int)),(fr,rows)=Mini.liter N (Mini.at1 K) i∧(∀j,j<i→j<(Mini.liter N (Mini.at1 K) j).1.length)∧Kp n3 H3 s.n s.H∧s.H yf=.cells (fr.map natI) 3 true∧n3+2≤yf∧s.H (n3+1)=.map (gE (Value.int .i64) (fr.map (Mini.at1 K)) 0) fr.length 3 ∧
   s.H n3=.cells [sl yn i,sl yq i] 31 true∧(i≠0→LL (n3+2) s.H yn 26 3 (fun z=>[Value.int .i64 z]) rows ys∧s.H yq=.cells ((Mini.rls R (fr.take i)).map (Value.int .i64)) 3 true∧n3+2≤yn∧n3+2≤yq∧yf≠yn∧yf≠yq∧yn≠yq∧∀v,v<i→ys v≠yf∧ys v≠yq) ∧
   s.f 1=.pointer (some ⟨n0,0,none⟩)∧s.f 2=.pointer (some ⟨n0+1,0,none⟩)∧s.f 3=.slice (some ⟨kx,0,none⟩) K.length K.length∧s.f 4=.pointer (some ⟨n3,0,none⟩)∧s.f 5=.map (some (n3+1))∧s.f 6=.slice (some ⟨yf,0,none⟩) fr.length fr.length∧s.f 7=.int .i64 (i:Int)∧kk=N.length - i) N.length ?_ ?_
  ·exact⟨0,n3+1+1,0,0,fun _=>0,[0],[],rfl,fun j hj=>absurd hj (Nat.not_lt_zero _),i4,i3,by omega,i2,i1,fun h=>absurd rfl h,rfl,rfl,rfl,rfl,rfl,rfl,rfl,rfl⟩
  clear i1 i2 i3 i4 H4
  rintro kk ⟨f,n5,H5⟩ ⟨i,yf,yn,yq,ys,fr,rows,hit,hprev,k5,hyf,hyf2,hmp,hout,hLL,f1,f2,f3,f4,f5,f6,f7,rfl⟩ ih
  simp only at k5 hyf hmp hout hLL f1 f2 f3 f4 f5 f6 f7 ih
  have hfr:fr=(Mini.liter N (Mini.at1 K) i).1:=congrArg Prod.fst hit
  have hrows:rows=(Mini.liter N (Mini.at1 K) i).2:=congrArg Prod.snd hit
  have hLt:=Mini.liter_lt (kf:=Mini.at1 K) ok i hprev
  rw[←hfr,←hrows]at hLt
  have hfl:=hLt.st.len
  by_cases hil:i<fr.length
  ·have hil':((i:Int)<(fr.length:Int))=True:=by simp only[eq_iff_iff,iff_true];omega
   have h0i:(0:Int)≤(i:Int):=Int.natCast_nonneg i
   have hb5:=(k5.keep n0 (by omega)).trans hb3
   have hKc5:=(k5.keep kx hkx3).trans hKc
   have kE:=kB.trans k5
   have hw5:=kE.wf hw0
   obtain⟨x,k,cs,ty,own,rfl,hx0,hr0⟩:=hN0.base (by intro e;rw[e]at hpos;exact absurd hpos (by simp))
   have hx5:H5 x=.cells cs ty own:=(kE.keep x (live_lt0 hw0 (by rw[hx0];intro e;cases e))).trans hx0
   obtain⟨p0,c0,_⟩:=hr0 0 hpos
   rw[Nat.add_zero]at c0
   obtain⟨hsm,hsat⟩:=Mini.fr_at hil
   have hsl:=hLt.st.lt _ hsm
   generalize hsv:fr.getD i 0=s at *
   obtain⟨p,ci,hp⟩:=hr0 s hsl
   have hw0l:N[0].length=w:=by rw[hw,Mini.getD_at [] hpos]
   have hXw:N[s].length=w:=by have:=ok.row s hsl;rwa [Mini.getD_at [] hsl]at this
   have hNi:((0:Int)<(N.length:Int))=True:=by simp only[eq_iff_iff,iff_true];omega
   have hw1:((0:Int)≤(w:Int))=True:=by simp
   have hw2:((w:Int)≤(w:Int))=True:=by simp
   have hw3':((w:Int)≤(bigN:Int))=True:=by simp only[eq_iff_iff,iff_true];unfold bigN;omega
   have hz0:[Value.int .i64 (Int.ofNat 0)]=[Value.int .i64 0]:=rfl
   have hsi:((s:Int)<(N.length:Int))=True:=by simp only[eq_iff_iff,iff_true];omega
   have h0s:(0:Int)≤(s:Int):=Int.natCast_nonneg s
   have hfs:(fr.map natI)[i]? = some (.int .i64 (s:Int)):=by rw[List.getElem?_map,hsat];rfl
   rw[hw0l]at c0
   rw[hXw]at ci
   have kR:=Kp.new n5 H5 (.cells ((List.replicate w (0:Int)).map (Value.int .i64)) 3 true)
   have hyr:=hset_at H5 n5 (.cells ((List.replicate w (0:Int)).map (Value.int .i64)) 3 true)
   have hyf5:yf<n5:=live_lt0 hw5 (by rw[hyf];intro e;cases e)
   have r1:∀ob,hset H5 n5 ob n0=H5 n0:=fun ob=>hset_ne _ _ _ (by have:=k5.le;omega)
   have r2:∀ob,hset H5 n5 ob x=H5 x:=fun ob=>hset_ne _ _ _ (by have:=live_lt0 hw5 (z:=x) (by rw[hx5];intro e;cases e);omega)
   have r3:∀ob,hset H5 n5 ob yf=H5 yf:=fun ob=>hset_ne _ _ _ (by omega)
   repeat (first|apply WK.seq|apply WK.block|apply WK.skipSeq|apply WK.skipBlock|apply WK.retSeq|apply WK.retBlock|apply WK.exitSeq|apply WK.exitHere|refine WK.exitOn rfl ?_|((first|(refine WK.rgn ?_ ?_;kernel_rfl)|refine AtCall.now ?_);simp (config:={ maxSteps:=1000000 }) only[SS,qx15,forall_const,vun,tap,tap2,tap3,tap4,tsrc,tsrc2,Int.reduceEq,Int.reduceNeg,Nat.reduceGT,Nat.reduceLT,Nat.reduceLeDiff,Nat.reduceEqDiff,↓reduceIte,reduceCtorEq,Int.reduceToNat,Int.reduceLE,Int.reduceLT,Nat.reduceAdd,Nat.reduceMul,f1,f6,f7,hil',hil,h0i,hb5,ac_0,ac_1,hx5,c0,hNi,hw1,hw2,hw3',hz0,rep_ints,hyf,hfs,hsi,h0s,ci,r1,r2,r3,Int.toNat_natCast,Nat.zero_add,ff_8])|(refine WK.condT ?_ ?_;focus (simp only[ev_tmp,ev_const,fset_apply,Nat.reduceEqDiff,↓reduceIte,decide_true,decide_false,f1,f6,f7,hil',hil,h0i,hb5,ac_0,ac_1,hx5,c0,hNi,hw1,hw2,hw3',hz0,rep_ints,hyf,hfs,hsi,h0s,ci,r1,r2,r3,Int.toNat_natCast,Nat.zero_add,ff_8];done))|(refine WK.condF ?_ ?_;focus (simp only[ev_tmp,ev_const,fset_apply,Nat.reduceEqDiff,↓reduceIte,decide_true,decide_false,f1,f6,f7,hil',hil,h0i,hb5,ac_0,ac_1,hx5,c0,hNi,hw1,hw2,hw3',hz0,rep_ints,hyf,hfs,hsi,h0s,ci,r1,r2,r3,Int.toNat_natCast,Nat.zero_add,ff_8];done)))
   have hgX:N.getD s []=N[s]:=Mini.getD_at [] hsl
   have hXto:∀q (h:q<N[s].length),-1≤N[s][q]∧N[s][q]<N.length∧Mini.at2 N s q=N[s][q]:=fun q h=>by
    have e:=Mini.at2_at hsl h
    exact⟨by rw[←e];exact ok.lo s hsl q (by omega),by rw[←e];exact ok.hi s hsl q (by omega),e⟩
   have hcm:=hLt.st.come _ hsm
   have hspec:=Mini.lrow_spec (kf:=Mini.at1 K) (N:=N) (w:=w)
   have hFr:=hLt.st
   have hrm:=Mini.row_mem ok hsl hcm
   generalize hset H5 n5 (.cells ((List.replicate w (0:Int)).map (Value.int .i64)) 3 true)=H6 at *
   rw[hgX]at hrm
   have hnext:Mini.liter N (Mini.at1 K) (i+1)=((Mini.lrow (Mini.at1 K) N[s] fr).2,rows++[(Mini.lrow (Mini.at1 K) N[s] fr).1]):=by
    show((Mini.lrow (Mini.at1 K) (N.getD ((Mini.liter N (Mini.at1 K) i).1.getD i 0) []) (Mini.liter N (Mini.at1 K) i).1).2,(Mini.liter N (Mini.at1 K) i).2++[(Mini.lrow (Mini.at1 K) (N.getD ((Mini.liter N (Mini.at1 K) i).1.getD i 0) []) (Mini.liter N (Mini.at1 K) i).1).1])=_
    rw[←hfr,←hrows,hsv,hgX]
   generalize hX:N[s]=X at *
   have hkR0:Kx (fun z=>z=yf∨z=n3+1) (n5+1) H6 (n5+1) H6:=Kx.refl _ _ _
   refine WK.loop (fun kk s'=>∃(j yg:Nat),j≤w∧Kx (fun z=>z=yf∨z=n3+1∨z=n5) (n5+1) H6 s'.n s'.H∧(yg=yf∨n5<yg)∧s'.H yg=.cells ((Mini.lrow (Mini.at1 K) (X.take j) fr).2.map natI) 3 true ∧
    s'.H (n3+1)=.map (gE (Value.int .i64) ((Mini.lrow (Mini.at1 K) (X.take j) fr).2.map (Mini.at1 K)) 0) (Mini.lrow (Mini.at1 K) (X.take j) fr).2.length 3∧s'.H n5=.cells (((Mini.lrow (Mini.at1 K) (X.take j) fr).1++List.replicate (w - j) 0).map (Value.int .i64)) 3 true ∧
    s'.f 1=.pointer (some ⟨n0,0,none⟩)∧s'.f 2=.pointer (some ⟨n0+1,0,none⟩)∧s'.f 3=.slice (some ⟨kx,0,none⟩) K.length K.length∧s'.f 4=.pointer (some ⟨n3,0,none⟩)∧s'.f 5=.map (some (n3+1))∧s'.f 6=.slice (some ⟨yg,0,none⟩) (Mini.lrow (Mini.at1 K) (X.take j) fr).2.length (Mini.lrow (Mini.at1 K) (X.take j) fr).2.length∧s'.f 7=.int .i64 (i:Int) ∧
    s'.f 8=.slice (some ⟨n5,0,none⟩) w w∧s'.f 44=.slice p w w∧s'.f 45=.int .i64 (w:Int)∧s'.f 46=.int .i64 (j:Int)∧kk=w - j) w ?_ ?_
   ·refine⟨0,yf,Nat.zero_le _,Kx.refl _ _ _,.inl rfl,(kR.keep yf hyf5).trans hyf,(kR.keep (n3+1) (by have:=k5.le;omega)).trans hmp,?_,f1,f2,f3,f4,f5,f6,f7,rfl,rfl,rfl,rfl,rfl⟩
    show H6 n5=_
    rw[hyr];rfl
   rintro kk ⟨f,n7,H7⟩ ⟨j,yg,hj,k7,hyg,hyc,hmp7,hrow7,f1,f2,f3,f4,f5,f6,f7,f8,f44,f45,f46,rfl⟩ ih2
   simp only at k7 hyc hmp7 hrow7 f1 f2 f3 f4 f5 f6 f7 f8 f44 f45 f46 ih ih2
   have hw6:=kR.wf hw5
   have hw7:=k7.wf hw6
   have hle5:=k5.le
   have hle7:=k7.le
   obtain⟨hFr7,⟨rr,hrr⟩,_⟩:=hspec (X.take j) hFr (fun y hy=>hrm y (List.mem_of_mem_take hy))
   have hL1:(Mini.lrow (Mini.at1 K) (X.take j) fr).1.length=j:=by rw[Mini.lrow_len,List.length_take];omega
   have hL2:=hFr7.len
   by_cases hjl:j<w
   ·have hjl':((j:Int)<(w:Int))=True:=by simp only[eq_iff_iff,iff_true];omega
    have h0j:(0:Int)≤(j:Int):=Int.natCast_nonneg j
    have hjX:j<X.length:=by omega
    have kF:Kp n0 H0 n7 H7:=⟨by have:=kE.le;omega,fun z hz=>((k7.keep z (by have:=kE.le;omega) (by rintro(h|h|h) <;> (have:=kE.le;omega))).trans (kR.keep z (by have:=kE.le;omega))).trans (kE.keep z hz),fun h=>k7.wf (kR.wf (kE.wf h))⟩
    have hRp:=hp.mono hw0 kF
    obtain⟨z,m,es,ty3,own3,rfl,hz,ej⟩:=hRp.at hjX
    have hKc7:H7 kx=.cells (K.map (Value.int .i64)) 3 true:=((k7.keep kx (by omega) (by rintro(h|h|h) <;> omega)).trans (kR.keep kx (by omega))).trans hKc5
    obtain⟨x1,x2,_⟩:=hXto j hjX
    have htk:X.take (j+1)=X.take j++[X[j]]:=List.take_succ_eq_append_getElem hjX
    have hsn:=Mini.lrow_snoc (Mini.at1 K) X[j] (X.take j) fr
    rw[←htk]at hsn
    have hxm:=hrm X[j] (List.getElem_mem hjX)
    generalize hXj:X[j]=Y at *
    generalize hLL2:Mini.lrow (Mini.at1 K) (X.take j) fr=LR at *
    obtain⟨A,B⟩:=LR
    simp only at *
    have hwj:w - j=(w - (j+1))+1:=by omega
    rw[hwj]at hrow7
    have hrl:j<((A++List.replicate ((w - (j+1))+1) 0).map (Value.int .i64)).length:=by simp;omega
    have hrl2:j+1≤((A++List.replicate ((w - (j+1))+1) 0).map (Value.int .i64)).length:=hrl
    have hset1:∀v,((A++List.replicate ((w - (j+1))+1) 0).map (Value.int .i64)).set j (Value.int .i64 v)=((A++[v])++List.replicate (w - (j+1)) 0).map (Value.int .i64):=fun v=>by
     have:=set_row A (w - (j+1)) v
     rwa [hL1]at this
    by_cases c1:Y<0
    ·repeat (first|apply WK.seq|apply WK.block|apply WK.skipSeq|apply WK.skipBlock|apply WK.retSeq|apply WK.retBlock|apply WK.exitSeq|apply WK.exitHere|refine WK.exitOn rfl ?_|((first|(refine WK.rgn ?_ ?_;kernel_rfl)|refine AtCall.now ?_);simp (config:={ maxSteps:=1000000 }) only[SS,qx15,forall_const,vun,tap,tap2,tap3,tap4,tsrc,tsrc2,Int.reduceEq,Int.reduceNeg,Nat.reduceGT,Nat.reduceLT,Nat.reduceLeDiff,Nat.reduceEqDiff,↓reduceIte,reduceCtorEq,Int.reduceToNat,Int.reduceLE,Int.reduceLT,Nat.reduceAdd,Nat.reduceMul,f8,f44,f45,f46,hjl',hjl,h0j,hz,ej,hrow7,hrl,hrl2,hset1,c1,Int.toNat_natCast,Nat.zero_add,ff_8])|(refine WK.condT ?_ ?_;focus (simp only[ev_tmp,ev_const,fset_apply,Nat.reduceEqDiff,↓reduceIte,decide_true,decide_false,f8,f44,f45,f46,hjl',hjl,h0j,hz,ej,hrow7,hrl,hrl2,hset1,c1,Int.toNat_natCast,Nat.zero_add,ff_8];done))|(refine WK.condF ?_ ?_;focus (simp only[ev_tmp,ev_const,fset_apply,Nat.reduceEqDiff,↓reduceIte,decide_true,decide_false,f8,f44,f45,f46,hjl',hjl,h0j,hz,ej,hrow7,hrl,hrl2,hset1,c1,Int.toNat_natCast,Nat.zero_add,ff_8];done)))
     have hst:Mini.lstep (Mini.at1 K) Y B=(-1,B):=by unfold Mini.lstep;rw[if_pos c1]
     rw[hst]at hsn
     refine ih2 (w - (j+1)) (by omega) _ ?_
     refine⟨j+1,yg,hjl,k7.set _ (.inl (.inr (.inr rfl))) (by omega),hyg,?_,?_,?_,f1,f2,f3,f4,f5,?_,f7,f8,f44,f45,?_,rfl⟩
     ·rw[hsn];exact(hset_ne _ _ _ (by rcases hyg with h|h <;> omega)).trans hyc
     ·rw[hsn];exact(hset_ne _ _ _ (by omega)).trans hmp7
     ·rw[hsn];exact hset_at _ _ _
     ·rw[hsn];exact f6
     ·simp only[packed,fset_apply,Nat.reduceEqDiff,↓reduceIte,List.getD_cons_zero,List.getD_cons_succ,wrap_up hjl (show w≤maxL by unfold maxL;omega),ff_8]
    ·have hYN:Y.toNat<N.length:=by omega
     have hkY:=ints_at (K:=K) (i:=Y.toNat) (by omega)
     have hYl:(0:Int)≤Y:=by omega
     have hYK:(Y<(K.length:Int))=True:=by simp only[eq_iff_iff,iff_true];omega
     have hYK2:Y.toNat<K.length:=by omega
     have gd:=hin Y.toNat hYN
     have gds:∀a,a∈B.map (Mini.at1 K)→inI a:=fun a ha=>by obtain⟨q,hq,rfl⟩:=List.mem_map.1 ha;exact hin q (hFr7.lt q hq)
     have r4:∀ob,hset H7 n5 ob kx=H7 kx:=fun ob=>hset_ne _ _ _ (by omega)
     have r5:∀ob,hset H7 n5 ob (n3+1)=H7 (n3+1):=fun ob=>hset_ne _ _ _ (by omega)
     have hml:B.length=(B.map (Mini.at1 K)).length:=(List.length_map _).symm
     have hset2:∀u v,(((A++[u])++List.replicate (w - (j+1)) 0).map (Value.int .i64)).set j (Value.int .i64 v)=((A++[v])++List.replicate (w - (j+1)) 0).map (Value.int .i64):=fun u v=>by
      rw[←hL1,←List.map_set]
      congr 1
      rw[List.append_assoc,List.set_append_right _ _ (Nat.le_refl _),Nat.sub_self,List.append_assoc];rfl
     have hrl3:∀u,j+1≤(((A++[u])++List.replicate (w - (j+1)) 0).map (Value.int .i64)).length:=fun u=>by simp;omega
     by_cases hmem:Mini.at1 K Y.toNat∈B.map (Mini.at1 K)
     ·have hst:Mini.lstep (Mini.at1 K) Y B=((((B.map (Mini.at1 K)).idxOf (Mini.at1 K Y.toNat):Nat):Int),B):=by unfold Mini.lstep;rw[if_neg c1,if_pos hmem]
      rw[hst]at hsn
      have hl1:∀ob,_:=fun ob=>gkI'.look_yes gd gds hmem und_mi ((hset_ne H7 n5 ob (x:=n3+1) (by omega)).trans hmp7) true
      have hl2:∀ob,_:=fun ob=>gkI'.look_yes gd gds hmem und_mi ((hset_ne H7 n5 ob (x:=n3+1) (by omega)).trans hmp7) false
      simp only[if_true]at hl1
      simp only[Bool.false_eq_true,if_false]at hl2
      repeat (first|apply WK.seq|apply WK.block|apply WK.skipSeq|apply WK.skipBlock|apply WK.retSeq|apply WK.retBlock|apply WK.exitSeq|apply WK.exitHere|refine WK.exitOn rfl ?_|((first|(refine WK.rgn ?_ ?_;kernel_rfl)|refine AtCall.now ?_);simp (config:={ maxSteps:=1000000 }) only[SS,qx15,forall_const,vun,tap,tap2,tap3,tap4,tsrc,tsrc2,Int.reduceEq,Int.reduceNeg,Nat.reduceGT,Nat.reduceLT,Nat.reduceLeDiff,Nat.reduceEqDiff,↓reduceIte,reduceCtorEq,Int.reduceToNat,Int.reduceLE,Int.reduceLT,Nat.reduceAdd,Nat.reduceMul,f3,f5,f8,f44,f45,f46,hjl',hjl,h0j,hz,ej,hrow7,hrl,hrl2,hset1,c1,hYl,hYK,hYK2,r4,hKc7,hkY,aop_look,hl1,hl2,hset_at,hset2,hrl3,Int.toNat_natCast,Nat.zero_add,ff_8])|(refine WK.condT ?_ ?_;focus (simp only[ev_tmp,ev_const,fset_apply,Nat.reduceEqDiff,↓reduceIte,decide_true,decide_false,f3,f5,f8,f44,f45,f46,hjl',hjl,h0j,hz,ej,hrow7,hrl,hrl2,hset1,c1,hYl,hYK,hYK2,r4,hKc7,hkY,aop_look,hl1,hl2,hset_at,hset2,hrl3,Int.toNat_natCast,Nat.zero_add,ff_8];done))|(refine WK.condF ?_ ?_;focus (simp only[ev_tmp,ev_const,fset_apply,Nat.reduceEqDiff,↓reduceIte,decide_true,decide_false,f3,f5,f8,f44,f45,f46,hjl',hjl,h0j,hz,ej,hrow7,hrl,hrl2,hset1,c1,hYl,hYK,hYK2,r4,hKc7,hkY,aop_look,hl1,hl2,hset_at,hset2,hrl3,Int.toNat_natCast,Nat.zero_add,ff_8];done)))
      refine ih2 (w - (j+1)) (by omega) _ ?_
      refine⟨j+1,yg,hjl,k7.set _ (.inl (.inr (.inr rfl))) (by omega),hyg,?_,?_,?_,f1,f2,f3,f4,f5,?_,f7,f8,f44,f45,?_,rfl⟩
      ·rw[hsn];exact(hset_ne _ _ _ (by rcases hyg with h|h <;> omega)).trans hyc
      ·rw[hsn];exact(hset_ne _ _ _ (by omega)).trans hmp7
      ·rw[hsn];exact hset_at _ _ _
      ·rw[hsn];exact f6
      ·simp only[packed,fset_apply,Nat.reduceEqDiff,↓reduceIte,List.getD_cons_zero,List.getD_cons_succ,wrap_up hjl (show w≤maxL by unfold maxL;omega),ff_8]
     ·have hst:Mini.lstep (Mini.at1 K) Y B=((B.length:Int),B++[Y.toNat]):=by unfold Mini.lstep;rw[if_neg c1,if_neg hmem]
      rw[hst]at hsn
      have hl1:∀ob,_:=fun ob=>gkI'.look_no gd gds hmem und_mi zero_int ((hset_ne H7 n5 ob (x:=n3+1) (by omega)).trans hmp7) true
      simp only[if_true]at hl1
      have hyg7:yg<n7:=live_lt0 hw7 (by rw[hyc];intro e;cases e)
      have hygn:yg≠n5:=by rcases hyg with h|h <;> omega
      have hygm:yg≠n3+1:=by rcases hyg with h|h <;> omega
      have hpt:∀ob,_:=fun ob=>gkI'.put gd gds hmem und_mi (((hset_ne H7 n5 ob (x:=n3+1) (by omega)).trans hmp7).trans (by rw[hml]))
      simp only[List.length_map,List.length_append,List.length_singleton]at hpt
      have hnm:B.map (Mini.at1 K)++[Mini.at1 K Y.toNat]=(B++[Y.toNat]).map (Mini.at1 K):=by simp
      rw[hnm]at hpt
      have gds2:∀a,a∈(B++[Y.toNat]).map (Mini.at1 K)→inI a:=fun a ha=>by
       rw[←hnm]at ha
       rcases List.mem_append.1 ha with h|h
       ·exact gds a h
       ·have:a=Mini.at1 K Y.toNat:=by simpa using h
        rw[this];exact gd
      have hin2:Mini.at1 K Y.toNat∈(B++[Y.toNat]).map (Mini.at1 K):=by rw[←hnm];simp
      have hidx:((B++[Y.toNat]).map (Mini.at1 K)).idxOf (Mini.at1 K Y.toNat)=B.length:=by
       rw[←hnm,List.idxOf_append,if_neg hmem];simp
      have hl2:∀(H':Heap),H' (n3+1)=.map (gE (Value.int .i64) ((B++[Y.toNat]).map (Mini.at1 K)) 0) (B.length+1) 3→_:=fun H' h=>gkI'.look_yes gd gds2 hin2 und_mi h false
      simp only[Bool.false_eq_true,if_false,hidx]at hl2
      have u1:∀(H':Heap) ob,hset H' (n3+1) ob yg=H' yg:=fun H' ob=>hset_ne _ _ _ hygm
      have u2:∀(H':Heap) ob,hset H' n5 ob yg=H' yg:=fun H' ob=>hset_ne _ _ _ hygn
      have u3:∀(H':Heap) ob,hset H' n7 ob yg=H' yg:=fun H' ob=>hset_ne _ _ _ (by omega)
      have u4:∀(H':Heap) ob,hset H' n7 ob (n3+1)=H' (n3+1):=fun H' ob=>hset_ne _ _ _ (by omega)
      have u5:∀(H':Heap) ob,hset H' (n7+1) ob (n3+1)=H' (n3+1):=fun H' ob=>hset_ne _ _ _ (by omega)
      have u6:∀(H':Heap) ob,hset H' yg ob (n3+1)=H' (n3+1):=fun H' ob=>hset_ne _ _ _ (Ne.symm hygm)
      have u7:∀(H':Heap) ob,hset H' yg ob n7=H' n7:=fun H' ob=>hset_ne _ _ _ (by omega)
      have u8:∀(H':Heap) ob,hset H' (n3+1) ob kx=H' kx:=fun H' ob=>hset_ne _ _ _ (by omega)
      have u9:∀(H':Heap) ob,hset H' n7 ob kx=H' kx:=fun H' ob=>hset_ne _ _ _ (by omega)
      have u10:∀(H':Heap) ob,hset H' (n7+1) ob kx=H' kx:=fun H' ob=>hset_ne _ _ _ (by omega)
      have u11:∀(H':Heap) ob,hset H' yg ob kx=H' kx:=fun H' ob=>hset_ne _ _ _ (by rcases hyg with h|h <;> omega)
      have u12:∀(H':Heap) ob,hset H' n7 ob n5=H' n5:=fun H' ob=>hset_ne _ _ _ (by omega)
      have u13:∀(H':Heap) ob,hset H' (n7+1) ob n5=H' n5:=fun H' ob=>hset_ne _ _ _ (by omega)
      have u14:∀(H':Heap) ob,hset H' yg ob n5=H' n5:=fun H' ob=>hset_ne _ _ _ (Ne.symm hygn)
      have u15:∀(H':Heap) ob,hset H' (n3+1) ob n5=H' n5:=fun H' ob=>hset_ne _ _ _ (by omega)
      have hct:[n7].contains yg=false:=by simp;omega
      have hbg:B.length+1≤bigN:=by unfold bigN;omega
      have hBm:(B.map natI).length=B.length:=List.length_map _
      have hBt:(B.map natI).take B.length=B.map natI:=List.take_of_length_le (by simp)
      repeat (first|apply WK.seq|apply WK.block|apply WK.skipSeq|apply WK.skipBlock|apply WK.retSeq|apply WK.retBlock|apply WK.exitSeq|apply WK.exitHere|refine WK.exitOn rfl ?_|((first|(refine WK.rgn ?_ ?_;kernel_rfl)|refine AtCall.now ?_);simp (config:={ maxSteps:=1000000 }) only[SS,qx15,forall_const,vun,tap,tap2,tap3,tap4,tsrc,tsrc2,Int.reduceEq,Int.reduceNeg,Nat.reduceGT,Nat.reduceLT,Nat.reduceLeDiff,Nat.reduceEqDiff,↓reduceIte,reduceCtorEq,Int.reduceToNat,Int.reduceLE,Int.reduceLT,Nat.reduceAdd,Nat.reduceMul,f3,f5,f6,f8,f44,f45,f46,hjl',hjl,h0j,hz,ej,hrow7,hrl,hrl2,hset1,c1,hYl,hYK,hYK2,r4,hKc7,hkY,aop_look,aop_mapset,hl1,hpt,hl2,u1,u2,u3,u4,u5,u6,u7,u8,u9,u10,u11,u12,u13,u14,u15,hyc,hct,hbg,hBm,hBt,hset_at,hset2,hrl3,Int.toNat_natCast,Nat.zero_add,Nat.le_refl,ff_8])|(refine WK.condT ?_ ?_;focus (simp only[ev_tmp,ev_const,fset_apply,Nat.reduceEqDiff,↓reduceIte,decide_true,decide_false,f3,f5,f6,f8,f44,f45,f46,hjl',hjl,h0j,hz,ej,hrow7,hrl,hrl2,hset1,c1,hYl,hYK,hYK2,r4,hKc7,hkY,aop_look,aop_mapset,hl1,hpt,hl2,u1,u2,u3,u4,u5,u6,u7,u8,u9,u10,u11,u12,u13,u14,u15,hyc,hct,hbg,hBm,hBt,hset_at,hset2,hrl3,Int.toNat_natCast,Nat.zero_add,Nat.le_refl,ff_8];done))|(refine WK.condF ?_ ?_;focus (simp only[ev_tmp,ev_const,fset_apply,Nat.reduceEqDiff,↓reduceIte,decide_true,decide_false,f3,f5,f6,f8,f44,f45,f46,hjl',hjl,h0j,hz,ej,hrow7,hrl,hrl2,hset1,c1,hYl,hYK,hYK2,r4,hKc7,hkY,aop_look,aop_mapset,hl1,hpt,hl2,u1,u2,u3,u4,u5,u6,u7,u8,u9,u10,u11,u12,u13,u14,u15,hyc,hct,hbg,hBm,hBt,hset_at,hset2,hrl3,Int.toNat_natCast,Nat.zero_add,Nat.le_refl,ff_8];done)))
      have kk1:=(((((k7.set (x:=n5) (.cells (((A++[-1])++List.replicate (w - (j+1)) 0).map (Value.int .i64)) 3 true) (.inl (.inr (.inr rfl))) (by omega)).set (x:=n3+1) (.map (gE (Value.int .i64) ((B++[Y.toNat]).map (Mini.at1 K)) 0) (B.length+1) 3) (.inl (.inr (.inl rfl))) (by omega)).trans (Kp.new n7 _ (.cells [.int .i64 Y] 3 true)).kx).set (x:=yg) .dead (by rcases hyg with h|h;exact .inl (.inl h);exact .inr (by omega)) (by omega)).trans (Kp.new (n7+1) _ (.cells (List.take B.length (List.drop 0 (B.map natI))++List.take 1 (List.drop 0 [Value.int .i64 Y])) 3 true)).kx).set (x:=n5) (.cells (((A++[(B.length:Int)])++List.replicate (w - (j+1)) 0).map (Value.int .i64)) 3 true) (.inl (.inr (.inr rfl))) (by omega)
      refine ih2 (w - (j+1)) (by omega) _ ?_
      refine⟨j+1,n7+1,hjl,kk1,.inr (by omega),?_,?_,?_,f1,f2,f3,f4,f5,?_,f7,f8,f44,f45,?_,rfl⟩
      ·rw[hsn]
       refine(hset_ne _ _ _ (by omega)).trans ((hset_at _ _ _).trans ?_)
       rw[List.drop_zero,hBt,List.map_append]
       have:natI Y.toNat=Value.int .i64 Y:=by unfold natI;rw[Int.toNat_of_nonneg hYl]
       simp[this]
      ·rw[hsn]
       refine(hset_ne _ _ _ (by omega)).trans ((hset_ne _ _ _ (by omega)).trans ((hset_ne _ _ _ (Ne.symm hygm)).trans ((hset_ne _ _ _ (by omega)).trans ((hset_at _ _ _).trans ?_))))
       simp
      ·rw[hsn];exact hset_at _ _ _
      ·rw[hsn];simp only[packed,fset_apply,Nat.reduceEqDiff,↓reduceIte,List.getD_cons_zero,List.getD_cons_succ,List.length_append,List.length_singleton,ff_8]
      ·simp only[packed,fset_apply,Nat.reduceEqDiff,↓reduceIte,List.getD_cons_zero,List.getD_cons_succ,wrap_up hjl (show w≤maxL by unfold maxL;omega),ff_8]
   ·have hjl':((j:Int)<(w:Int))=False:=by simp only[eq_iff_iff,iff_false];omega
    have hje:j=w:=by omega
    subst hje
    have hXt:X.take j=X:=List.take_of_length_le (by omega)
    rw[hXt]at hyc hmp7 hrow7 f6 hFr7 hrr hL1 hL2
    have kF:Kp n0 H0 n7 H7:=⟨by have:=kE.le;omega,fun z hz=>((k7.keep z (by have:=kE.le;omega) (by rintro(h|h|h) <;> (have:=kE.le;omega))).trans (kR.keep z (by have:=kE.le;omega))).trans (kE.keep z hz),fun h=>k7.wf (kR.wf (kE.wf h))⟩
    generalize hLL2:Mini.lrow (Mini.at1 K) X fr=LR at *
    obtain⟨A,B⟩:=LR
    simp only at *
    have hout7:H7 n3=.cells [sl yn i,sl yq i] 31 true:=((k7.keep n3 (by omega) (by rintro(h|h|h) <;> omega)).trans (kR.keep n3 (by omega))).trans hout
    have hb7:H7 n0=_:=((k7.keep n0 (by omega) (by rintro(h|h|h) <;> omega)).trans (kR.keep n0 (by omega))).trans hb5
    have hRa:=hR0.mono hw0 kF
    have hsR:s<R.length:=by have:=ok.len;omega
    obtain⟨yR,lR,dR,tyR,ownR,hbR,hyR0,eR⟩:=hR0.at hsR
    subst hbR
    have hyRl:yR<n0:=live_lt0 hw0 (by rw[hyR0];intro e;cases e)
    have hyR:=(kF.keep yR hyRl).trans hyR0
    have hyg7:yg<n7:=live_lt0 hw7 (by rw[hyc];intro e;cases e)
    have hygn:yg≠n5:=by rcases hyg with h|h <;> omega
    have hn37:n3+1<n7:=by omega
    have hsR':((s:Int)<(R.length:Int))=True:=by simp only[eq_iff_iff,iff_true];omega
    have hBi:(B.map natI)[i]? = some (.int .i64 (s:Int)):=by
     rw[List.getElem?_map,hrr,List.getElem?_append_left hil,hsat];rfl
    have hiB:i<B.length:=by rw[hrr,List.length_append];omega
    have hiB':((i:Int)<(B.length:Int))=True:=by simp only[eq_iff_iff,iff_true];omega
    have w1:∀(H':Heap) ob,hset H' n7 ob n3=H' n3:=fun H' ob=>hset_ne _ _ _ (by omega)
    have w2:∀(H':Heap) ob,hset H' (n7+1) ob n3=H' n3:=fun H' ob=>hset_ne _ _ _ (by omega)
    have w3:∀(H':Heap) ob,hset H' (n7+1+1) ob n3=H' n3:=fun H' ob=>hset_ne _ _ _ (by omega)
    have w4:∀(H':Heap) ob,hset H' (n7+1+1+1) ob n3=H' n3:=fun H' ob=>hset_ne _ _ _ (by omega)
    have w5:∀(H':Heap) ob,hset H' n7 ob n0=H' n0:=fun H' ob=>hset_ne _ _ _ (by omega)
    have w6:∀(H':Heap) ob,hset H' (n7+1) ob n0=H' n0:=fun H' ob=>hset_ne _ _ _ (by omega)
    have w7:∀(H':Heap) ob,hset H' (n7+1+1) ob n0=H' n0:=fun H' ob=>hset_ne _ _ _ (by omega)
    have w8:∀(H':Heap) ob,hset H' (n7+1+1+1) ob n0=H' n0:=fun H' ob=>hset_ne _ _ _ (by omega)
    have w9:∀(H':Heap) ob,hset H' n7 ob yg=H' yg:=fun H' ob=>hset_ne _ _ _ (by omega)
    have w10:∀(H':Heap) ob,hset H' (n7+1) ob yg=H' yg:=fun H' ob=>hset_ne _ _ _ (by omega)
    have w11:∀(H':Heap) ob,hset H' (n7+1+1) ob yg=H' yg:=fun H' ob=>hset_ne _ _ _ (by omega)
    have w12:∀(H':Heap) ob,hset H' (n7+1+1+1) ob yg=H' yg:=fun H' ob=>hset_ne _ _ _ (by omega)
    have w13:∀(H':Heap) ob,hset H' n7 ob yR=H' yR:=fun H' ob=>hset_ne _ _ _ (by omega)
    have w14:∀(H':Heap) ob,hset H' (n7+1) ob yR=H' yR:=fun H' ob=>hset_ne _ _ _ (by omega)
    have w15:∀(H':Heap) ob,hset H' (n7+1+1) ob yR=H' yR:=fun H' ob=>hset_ne _ _ _ (by omega)
    have w16:∀(H':Heap) ob,hset H' (n7+1+1+1) ob yR=H' yR:=fun H' ob=>hset_ne _ _ _ (by omega)
    have w17:∀(H':Heap) ob,hset H' (n7+1) ob n7=H' n7:=fun H' ob=>hset_ne _ _ _ (by omega)
    have w18:∀(H':Heap) ob,hset H' (n7+1+1) ob (n7+1)=H' (n7+1):=fun H' ob=>hset_ne _ _ _ (by omega)
    have w19:∀(H':Heap) ob,hset H' (n7+1+1+1) ob (n7+1+1)=H' (n7+1+1):=fun H' ob=>hset_ne _ _ _ (by omega)
    have w20:∀(H':Heap) ob,hset H' n3 ob n0=H' n0:=fun H' ob=>hset_ne _ _ _ (by omega)
    have hA0:List.replicate (j - j) (0:Int)=[]:=by rw[Nat.sub_self];rfl
    rw[hA0,List.append_nil]at hrow7
    have hAl:A.length=j:=hL1
    have hfm:∀l:List Int,(l.flatMap fun z=>[Value.int .i64 z])=l.map (Value.int .i64):=fun l=>by
     induction l with
     | nil=>rfl
     | cons z l ihl=>rw[List.flatMap_cons,ihl];rfl
    have hjp:j≠0:=by have:=ok.wpos;omega
    have hprev2:∀q,q<i+1→q<(Mini.liter N (Mini.at1 K) q).1.length:=fun q hq=>by
     by_cases e:q=i
     ·subst e;rw[←hfr];exact hil
     ·exact hprev q (by omega)
    have hBt:B.take (i+1)=fr.take i++[s]:=by
     rw[hrr,List.take_append_of_le_length (by omega),List.take_succ_eq_append_getElem hil]
     have:=List.getElem?_eq_getElem hil
     rw[hsat]at this
     rw[Option.some.inj this]
    have hrs:Mini.rls R (B.take (i+1))=Mini.rls R (fr.take i)++[R[s]]:=by
     rw[hBt];unfold Mini.rls;rw[List.map_append];simp[Mini.at1_at hsR]
    have hrwl:rows.length=i:=hLt.len
    have hfit:=hLt.st.len
    have hrne:∀u (hu:u<rows.length),rows[u]≠[]:=fun u hu e=>by
     have:=hLt.wd u (by omega)
     rw[Mini.getD_at [] hu,e]at this
     have:=ok.wpos;simp at *;omega
    by_cases hi0:i=0
    ·subst hi0
     repeat (first|apply WK.seq|apply WK.block|apply WK.skipSeq|apply WK.skipBlock|apply WK.retSeq|apply WK.retBlock|apply WK.exitSeq|apply WK.exitHere|refine WK.exitOn rfl ?_)
     (refine WK.rgn ?_ ?_;kernel_rfl;simp (config:={ maxSteps:=1000000 }) only[SS,qx15,forall_const,vun,tap,tap2,tap3,tap4,tsrc,tsrc2,Int.reduceEq,Int.reduceNeg,Nat.reduceGT,Nat.reduceLT,Nat.reduceLeDiff,Nat.reduceEqDiff,↓reduceIte,reduceCtorEq,Int.reduceToNat,Int.reduceLE,Int.reduceLT,Nat.reduceAdd,Nat.reduceMul,f45,f46,hjl',ff_8])
     repeat (first|apply WK.seq|apply WK.block|apply WK.skipSeq|apply WK.skipBlock|apply WK.retSeq|apply WK.retBlock|apply WK.exitSeq|apply WK.exitHere|refine WK.exitOn rfl ?_)
     first|(refine WK.condT ?_ ?_;focus (simp only[ev_tmp,ev_const,fset_apply,Nat.reduceEqDiff,↓reduceIte,decide_true,decide_false,hjl'];done))|(refine WK.condF ?_ ?_;focus (simp only[ev_tmp,ev_const,fset_apply,Nat.reduceEqDiff,↓reduceIte,decide_true,decide_false,hjl'];done))
     repeat (first|apply WK.seq|apply WK.block|apply WK.skipSeq|apply WK.skipBlock|apply WK.retSeq|apply WK.retBlock|apply WK.exitSeq|apply WK.exitHere|refine WK.exitOn rfl ?_)
     have a1:(bigN<1)=False:=by simp[bigN]
     have a2:((1:Nat)=0)=False:=by simp
     (refine WK.rgl [(4,6),(4,8),(4,12),(4,14)] (by kernel_rfl) ?_;simp (config:={ maxSteps:=1000000 }) only[wl,wl1_false,wl1_true,wl2_none,wl2_some,wl3_some,wl3_none,SS,forall_const,wx,tguard,acallee,top,tval,fput,tor,vsh,vbin,vun,tload,tload2,tload3,tstore,tstore2,tstore3,Go.AM.splice,one,tidx,tidx2,tidx3,tfa,tfa2,tlen2,tlen3,textr,tbox,talloc,still,still1,flat1,tmake,tbuild,afill,tbs,tbs2,tap,tap2,tap3,tap4,tsrc,tsrc2,Int.reduceEq,Int.reduceNeg,Nat.reduceGT,Nat.reduceLT,Nat.reduceLeDiff,Nat.reduceEqDiff,↓reduceIte,reduceCtorEq,Int.reduceToNat,Int.reduceLE,Int.reduceLT,Nat.reduceAdd,Nat.reduceMul,f1,f4,f6,f7,f8,hout7,hb7,ac_0,ac_1,sl_zero,hyc,hBi,hiB,hiB',hsR,hsR',hyR,eR,h0s,a1,a2,hset_at,w1,w2,w3,w4,w5,w6,w7,w8,w9,w10,w11,w12,w13,w14,w15,w16,w17,w18,w19,w20,Int.toNat_natCast,Nat.zero_add,ff_8])
     refine⟨light_cons rfl rfl (lapart_rr) (light_cons rfl rfl (lapart_rr) (light_cons rfl rfl (lapart_rr) (light_cons rfl rfl (lapart_rr) light_nil))),?_⟩
     repeat (first|apply WK.seq|apply WK.block|apply WK.skipSeq|apply WK.skipBlock|apply WK.retSeq|apply WK.retBlock|apply WK.exitSeq|apply WK.exitHere|refine WK.exitOn rfl ?_|((first|(refine WK.rgn ?_ ?_;kernel_rfl)|refine AtCall.now ?_);simp (config:={ maxSteps:=1000000 }) only[SS,qx15,forall_const,vun,tap,tap2,tap3,tap4,tsrc,tsrc2,Int.reduceEq,Int.reduceNeg,Nat.reduceGT,Nat.reduceLT,Nat.reduceLeDiff,Nat.reduceEqDiff,↓reduceIte,reduceCtorEq,Int.reduceToNat,Int.reduceLE,Int.reduceLT,Nat.reduceAdd,Nat.reduceMul,f7,ff_8])|(refine WK.condT ?_ ?_;focus (simp only[ev_tmp,ev_const,fset_apply,Nat.reduceEqDiff,↓reduceIte,decide_true,decide_false,f7,ff_8];done))|(refine WK.condF ?_ ?_;focus (simp only[ev_tmp,ev_const,fset_apply,Nat.reduceEqDiff,↓reduceIte,decide_true,decide_false,f7,ff_8];done)))
     have hr0':rows=[]:=List.length_eq_zero_iff.1 hrwl
     subst hr0'
     refine ih (N.length - (0+1)) (by omega) _ ?_
     refine⟨0+1,yg,n7+1,n7+1+1+1,upd ys 0 n5,B,[]++[A],hnext.symm,hprev2,?_,?_,?_,?_,?_,fun _=>⟨?_,?_,by omega,by omega,by omega,by omega,by omega,?_⟩,f1,f2,f3,f4,f5,f6,?_,rfl⟩
     ·exact(((((k5.trans kR).kx (X:=fun z=>n3≤z)).trans (k7.mono fun z _ h=>by rcases h with h|h|h <;> omega)).trans ((((Kp.new n7 H7 _).trans (Kp.new _ _ _)).trans (Kp.new _ _ _)).trans (Kp.new _ _ _)).kx).set _ (.inl (Nat.le_refl _)) (by omega)).kp fun z hz h=>by omega
     ·exact(hset_ne _ _ _ (by rcases hyg with h|h <;> omega)).trans ((hset_ne _ _ _ (by omega)).trans ((hset_ne _ _ _ (by omega)).trans ((hset_ne _ _ _ (by omega)).trans ((hset_ne _ _ _ (by omega)).trans hyc))))
     ·rcases hyg with h|h <;> omega
     ·exact(hset_ne _ _ _ (by omega)).trans ((hset_ne _ _ _ (by omega)).trans ((hset_ne _ _ _ (by omega)).trans ((hset_ne _ _ _ (by omega)).trans ((hset_ne _ _ _ (by omega)).trans hmp7))))
     ·exact hset_at _ _ _
     ·have e:upd ys 0 n5=upd ys ([]:List (List Int)).length n5:=rfl
      rw[e]
      refine LL.push (H:=H5) (x:=0) (fun h=>absurd rfl h) (fun _=>?_) (fun _=>by omega) (fun _=>by omega) ?_ (fun u hu=>absurd hu (Nat.not_lt_zero _)) (fun u hu=>absurd hu (Nat.not_lt_zero _)) (fun u hu=>absurd hu (Nat.not_lt_zero _))
      ·rw[hfm]
       exact(hset_ne _ _ _ (by omega)).trans ((hset_ne _ _ _ (by omega)).trans ((hset_ne _ _ _ (by omega)).trans ((hset_ne _ _ _ (by omega)).trans ((hset_ne _ _ _ (by omega)).trans hrow7))))
      ·refine(hset_ne _ _ _ (by omega)).trans ((hset_ne _ _ _ (by omega)).trans ((hset_ne _ _ _ (by omega)).trans ((hset_at _ _ _).trans ?_)))
       rw[hAl,sl_pos hjp];rfl
     ·refine(hset_ne _ _ _ (by omega)).trans ((hset_at _ _ _).trans ?_)
      rw[hrs];rfl
     ·intro v hv
      have:v=0:=by omega
      subst this
      rw[upd_at]
      exact⟨by rcases hyg with h|h <;> omega,by omega⟩
     ·simp only[packed,fset_apply,Nat.reduceEqDiff,↓reduceIte,List.getD_cons_zero,List.getD_cons_succ,ff_8]
      rfl
    ·obtain⟨hll,hyq,l1,l2,l3,l4,l5,l6⟩:=hLL hi0
     have hyn7:yn<n5:=live_lt0 hw5 (by rw[hll.hx];intro e;cases e)
     have hyq7:yq<n5:=live_lt0 hw5 (by rw[hyq];intro e;cases e)
     have w21:∀(H':Heap) ob,hset H' yn ob n3=H' n3:=fun H' ob=>hset_ne _ _ _ (by omega)
     have w22:∀(H':Heap) ob,hset H' yn ob n0=H' n0:=fun H' ob=>hset_ne _ _ _ (by omega)
     have w23:∀(H':Heap) ob,hset H' yn ob yg=H' yg:=fun H' ob=>hset_ne _ _ _ (by rcases hyg with h|h <;> omega)
     have w24:∀(H':Heap) ob,hset H' yn ob yR=H' yR:=fun H' ob=>hset_ne _ _ _ (by omega)
     have w25:∀(H':Heap) ob,hset H' yn ob n7=H' n7:=fun H' ob=>hset_ne _ _ _ (by omega)
     have w26:∀(H':Heap) ob,hset H' yn ob (n7+1)=H' (n7+1):=fun H' ob=>hset_ne _ _ _ (by omega)
     have w27:∀(H':Heap) ob,hset H' yn ob (n7+1+1)=H' (n7+1+1):=fun H' ob=>hset_ne _ _ _ (by omega)
     have w28:∀(H':Heap) ob,hset H' yn ob yq=H' yq:=fun H' ob=>hset_ne _ _ _ (by omega)
     have w29:∀(H':Heap) ob,hset H' yq ob n3=H' n3:=fun H' ob=>hset_ne _ _ _ (by omega)
     have w30:∀(H':Heap) ob,hset H' yq ob n0=H' n0:=fun H' ob=>hset_ne _ _ _ (by omega)
     have w31:∀(H':Heap) ob,hset H' yq ob yg=H' yg:=fun H' ob=>hset_ne _ _ _ (by rcases hyg with h|h <;> omega)
     have w32:∀(H':Heap) ob,hset H' yq ob yR=H' yR:=fun H' ob=>hset_ne _ _ _ (by omega)
     have w33:∀(H':Heap) ob,hset H' yq ob n7=H' n7:=fun H' ob=>hset_ne _ _ _ (by omega)
     have w34:∀(H':Heap) ob,hset H' yq ob (n7+1)=H' (n7+1):=fun H' ob=>hset_ne _ _ _ (by omega)
     have w35:∀(H':Heap) ob,hset H' yq ob (n7+1+1)=H' (n7+1+1):=fun H' ob=>hset_ne _ _ _ (by omega)
     have w36:∀(H':Heap) ob,hset H' n7 ob yn=H' yn:=fun H' ob=>hset_ne _ _ _ (by omega)
     have w37:∀(H':Heap) ob,hset H' n7 ob yq=H' yq:=fun H' ob=>hset_ne _ _ _ (by omega)
     have w38:∀(H':Heap) ob,hset H' (n7+1) ob yn=H' yn:=fun H' ob=>hset_ne _ _ _ (by omega)
     have w39:∀(H':Heap) ob,hset H' (n7+1) ob yq=H' yq:=fun H' ob=>hset_ne _ _ _ (by omega)
     have w40:∀(H':Heap) ob,hset H' (n7+1+1) ob yn=H' yn:=fun H' ob=>hset_ne _ _ _ (by omega)
     have w41:∀(H':Heap) ob,hset H' (n7+1+1) ob yq=H' yq:=fun H' ob=>hset_ne _ _ _ (by omega)
     rw[sl_pos hi0,sl_pos hi0]at hout7
     have kyn:H7 yn=_:=((k7.keep yn (by omega) (by rintro(h|h|h) <;> omega)).trans (kR.keep yn (by omega))).trans hll.hx
     have kyq:H7 yq=_:=((k7.keep yq (by omega) (by rintro(h|h|h) <;> omega)).trans (kR.keep yq (by omega))).trans hyq
     have c1:(llcells ys rows).length=i:=by rw[llcells_length];exact hLt.len
     have c2:((Mini.rls R (fr.take i)).map (Value.int .i64)).length=i:=by unfold Mini.rls;simp;omega
     have c3:(llcells ys rows).take i=llcells ys rows:=List.take_of_length_le (by omega)
     have c4:((Mini.rls R (fr.take i)).map (Value.int .i64)).take i=(Mini.rls R (fr.take i)).map (Value.int .i64):=List.take_of_length_le (by omega)
     have c5:i+1≤bigN:=by unfold bigN;omega
     have c6:[n7].contains yn=false:=by simp;omega
     have c7:[n7+1+1].contains yq=false:=by simp;omega
     repeat (first|apply WK.seq|apply WK.block|apply WK.skipSeq|apply WK.skipBlock|apply WK.retSeq|apply WK.retBlock|apply WK.exitSeq|apply WK.exitHere|refine WK.exitOn rfl ?_)
     (refine WK.rgn ?_ ?_;kernel_rfl;simp (config:={ maxSteps:=1000000 }) only[SS,qx15,forall_const,vun,tap,tap2,tap3,tap4,tsrc,tsrc2,Int.reduceEq,Int.reduceNeg,Nat.reduceGT,Nat.reduceLT,Nat.reduceLeDiff,Nat.reduceEqDiff,↓reduceIte,reduceCtorEq,Int.reduceToNat,Int.reduceLE,Int.reduceLT,Nat.reduceAdd,Nat.reduceMul,f45,f46,hjl',ff_8])
     repeat (first|apply WK.seq|apply WK.block|apply WK.skipSeq|apply WK.skipBlock|apply WK.retSeq|apply WK.retBlock|apply WK.exitSeq|apply WK.exitHere|refine WK.exitOn rfl ?_)
     first|(refine WK.condT ?_ ?_;focus (simp only[ev_tmp,ev_const,fset_apply,Nat.reduceEqDiff,↓reduceIte,decide_true,decide_false,hjl'];done))|(refine WK.condF ?_ ?_;focus (simp only[ev_tmp,ev_const,fset_apply,Nat.reduceEqDiff,↓reduceIte,decide_true,decide_false,hjl'];done))
     repeat (first|apply WK.seq|apply WK.block|apply WK.skipSeq|apply WK.skipBlock|apply WK.retSeq|apply WK.retBlock|apply WK.exitSeq|apply WK.exitHere|refine WK.exitOn rfl ?_)
     (refine WK.rgl [(4,6),(4,8),(4,12),(4,14)] (by kernel_rfl) ?_;simp (config:={ maxSteps:=1000000 }) only[wl,wl1_false,wl1_true,wl2_none,wl2_some,wl3_some,wl3_none,SS,forall_const,wx,tguard,acallee,top,tval,fput,tor,vsh,vbin,vun,tload,tload2,tload3,tstore,tstore2,tstore3,Go.AM.splice,one,tidx,tidx2,tidx3,tfa,tfa2,tlen2,tlen3,textr,tbox,talloc,still,still1,flat1,tmake,tbuild,afill,tbs,tbs2,tap,tap2,tap3,tap4,tsrc,tsrc2,Int.reduceEq,Int.reduceNeg,Nat.reduceGT,Nat.reduceLT,Nat.reduceLeDiff,Nat.reduceEqDiff,↓reduceIte,reduceCtorEq,Int.reduceToNat,Int.reduceLE,Int.reduceLT,Nat.reduceAdd,Nat.reduceMul,f1,f4,f6,f7,f8,hout7,hb7,ac_0,ac_1,sl_zero,hyc,hBi,hiB,hiB',hsR,hsR',hyR,eR,h0s,kyn,kyq,c1,c2,c3,c4,c5,c6,c7,hset_at,w1,w2,w3,w4,w5,w6,w7,w8,w9,w10,w11,w12,w13,w14,w15,w16,w17,w18,w19,w20,w21,w22,w23,w24,w25,w26,w27,w28,w29,w30,w31,w32,w33,w34,w35,w36,w37,w38,w39,w40,w41,Nat.le_refl,List.drop_zero,Int.toNat_natCast,Nat.zero_add,ff_8])
     refine⟨light_cons rfl rfl (lapart_wr (by simp;omega)) (light_cons rfl rfl (lapart_wr (by simp;omega)) (light_cons rfl rfl (lapart_wr (by simp;rcases hyg with h|h <;> omega)) (light_cons rfl rfl (lapart_wr (by simp;omega)) light_nil))),?_⟩
     repeat (first|apply WK.seq|apply WK.block|apply WK.skipSeq|apply WK.skipBlock|apply WK.retSeq|apply WK.retBlock|apply WK.exitSeq|apply WK.exitHere|refine WK.exitOn rfl ?_|((first|(refine WK.rgn ?_ ?_;kernel_rfl)|refine AtCall.now ?_);simp (config:={ maxSteps:=1000000 }) only[SS,qx15,forall_const,vun,tap,tap2,tap3,tap4,tsrc,tsrc2,Int.reduceEq,Int.reduceNeg,Nat.reduceGT,Nat.reduceLT,Nat.reduceLeDiff,Nat.reduceEqDiff,↓reduceIte,reduceCtorEq,Int.reduceToNat,Int.reduceLE,Int.reduceLT,Nat.reduceAdd,Nat.reduceMul,f7,ff_8])|(refine WK.condT ?_ ?_;focus (simp only[ev_tmp,ev_const,fset_apply,Nat.reduceEqDiff,↓reduceIte,decide_true,decide_false,f7,ff_8];done))|(refine WK.condF ?_ ?_;focus (simp only[ev_tmp,ev_const,fset_apply,Nat.reduceEqDiff,↓reduceIte,decide_true,decide_false,f7,ff_8];done)))
     have hylt:∀u (hu:u<rows.length),ys u<n5∧n3+2≤ys u∧ys u≠yf∧ys u≠yq∧ys u≠yn:=fun u hu=>⟨hll.lty hw5 hu (hrne u hu),hll.fy u hu (hrne u hu),(l6 u (by omega)).1,(l6 u (by omega)).2,hll.ne u hu (hrne u hu)⟩
     refine ih (N.length - (i+1)) (by omega) _ ?_
     refine⟨i+1,yg,n7+1,n7+1+1+1,upd ys i n5,B,rows++[A],hnext.symm,hprev2,?_,?_,?_,?_,?_,fun _=>⟨?_,?_,by omega,by omega,by omega,by omega,by omega,?_⟩,f1,f2,f3,f4,f5,f6,?_,rfl⟩
     ·exact(((((((k5.trans kR).kx (X:=fun z=>n3≤z)).trans (k7.mono fun z _ h=>by rcases h with h|h|h <;> omega)).trans (Kp.new n7 H7 _).kx).set (x:=yn) .dead (.inl (by omega)) (by omega)).trans ((Kp.new (n7+1) _ _).trans (Kp.new _ _ _)).kx).set (x:=yq) .dead (.inl (by omega)) (by omega) |>.trans (Kp.new _ _ _).kx |>.set _ (.inl (Nat.le_refl _)) (by omega)).kp fun z hz h=>by omega
     ·exact(hset_ne _ _ _ (by rcases hyg with h|h <;> omega)).trans ((hset_ne _ _ _ (by omega)).trans ((hset_ne _ _ _ (by rcases hyg with h|h <;> omega)).trans ((hset_ne _ _ _ (by omega)).trans ((hset_ne _ _ _ (by omega)).trans ((hset_ne _ _ _ (by rcases hyg with h|h <;> omega)).trans ((hset_ne _ _ _ (by omega)).trans hyc))))))
     ·rcases hyg with h|h <;> omega
     ·exact(hset_ne _ _ _ (by omega)).trans ((hset_ne _ _ _ (by omega)).trans ((hset_ne _ _ _ (by omega)).trans ((hset_ne _ _ _ (by omega)).trans ((hset_ne _ _ _ (by omega)).trans ((hset_ne _ _ _ (by omega)).trans ((hset_ne _ _ _ (by omega)).trans hmp7))))))
     ·refine(hset_at _ _ _).trans ?_
      rw[sl_pos (by omega),sl_pos (by omega)]
     ·have e:upd ys i n5=upd ys rows.length n5:=by rw[hrwl]
      rw[e]
      refine LL.push (H:=H5) (x:=yn) (fun _=>hll) (fun _=>?_) (fun _=>by omega) (fun _=>by omega) ?_ (fun u hu _=>by have:=hylt u hu;omega) (fun u hu _=>by have:=hylt u hu;omega) (fun u hu _=>?_)
      ·rw[hfm]
       exact(hset_ne _ _ _ (by omega)).trans ((hset_ne _ _ _ (by omega)).trans ((hset_ne _ _ _ (by omega)).trans ((hset_ne _ _ _ (by omega)).trans ((hset_ne _ _ _ (by omega)).trans ((hset_ne _ _ _ (by omega)).trans ((hset_ne _ _ _ (by omega)).trans hrow7))))))
      ·refine(hset_ne _ _ _ (by omega)).trans ((hset_ne _ _ _ (by omega)).trans ((hset_ne _ _ _ (by omega)).trans ((hset_ne _ _ _ (by omega)).trans ((hset_at _ _ _).trans ?_))))
       rw[hAl,sl_pos hjp];rfl
      ·obtain⟨v1,v2,v3,v4,v5⟩:=hylt u hu
       exact(hset_ne _ _ _ (by omega)).trans ((hset_ne _ _ _ (by omega)).trans ((hset_ne _ _ _ v4).trans ((hset_ne _ _ _ (by omega)).trans ((hset_ne _ _ _ (by omega)).trans ((hset_ne _ _ _ v5).trans ((hset_ne _ _ _ (by omega)).trans ((k7.keep _ (by omega) (by rintro(h|h|h) <;> omega)).trans (kR.keep _ v1))))))))
     ·refine(hset_ne _ _ _ (by omega)).trans ((hset_at _ _ _).trans ?_)
      rw[hrs,List.map_append];rfl
     ·intro v hv
      by_cases e:v=i
      ·subst e
       rw[upd_at]
       exact⟨by rcases hyg with h|h <;> omega,by omega⟩
      ·rw[upd_ne _ _ _ e]
       obtain⟨v1,v2,v3,v4,v5⟩:=hylt v (by omega)
       exact⟨by rcases hyg with h|h <;> omega,by omega⟩
     ·simp only[packed,fset_apply,Nat.reduceEqDiff,↓reduceIte,List.getD_cons_zero,List.getD_cons_succ,wrap_up hil (show fr.length≤maxL by unfold maxL;omega),ff_8]
  ·have hil':((i:Int)<(fr.length:Int))=False:=by simp only[eq_iff_iff,iff_false];omega
   have hie:i=fr.length:=by have:=hLt.le;omega
   have hi0:i≠0:=by obtain⟨r,e⟩:=hLt.st.zero;rw[hie,e];simp
   obtain⟨hll,hyq,l1,l2,l3,l4,l5,l6⟩:=hLL hi0
   have tk:List.take 2 (List.drop 0 [sl yn i,sl yq i])=[sl yn i,sl yq i]:=rfl
   have al:[sl yn i,sl yq i].all one=true:=by rw[sl_eq,sl_eq];rfl
   have sp:AM.splice [Value.slice none 0 0,.slice none 0 0] 0 [sl yn i,sl yq i]=[sl yn i,sl yq i]:=rfl
   have hres5:=(k5.keep (n0+1) (by omega)).trans hres3
   have s2:(some 2=some [sl yn i,sl yq i].length)=True:=by simp
   have s3:(0+[sl yn i,sl yq i].length≤[Value.slice none 0 0,.slice none 0 0].length)=True:=by simp
   repeat (first|apply WK.seq|apply WK.block|apply WK.skipSeq|apply WK.skipBlock|apply WK.retSeq|apply WK.retBlock|apply WK.exitSeq|apply WK.exitHere|refine WK.exitOn rfl ?_|((first|(refine WK.rgn ?_ ?_;kernel_rfl)|refine AtCall.now ?_);simp (config:={ maxSteps:=1000000 }) only[SS,qx15,forall_const,vun,tap,tap2,tap3,tap4,tsrc,tsrc2,Int.reduceEq,Int.reduceNeg,Nat.reduceGT,Nat.reduceLT,Nat.reduceLeDiff,Nat.reduceEqDiff,↓reduceIte,reduceCtorEq,Int.reduceToNat,Int.reduceLE,Int.reduceLT,Nat.reduceAdd,Nat.reduceMul,f6,f7,hil',f4,hout,f2,hres5,tk,al,sp,s2,s3,ff_8])|(refine WK.condT ?_ ?_;focus (simp only[ev_tmp,ev_const,fset_apply,Nat.reduceEqDiff,↓reduceIte,decide_true,decide_false,f6,f7,hil',f4,hout,f2,hres5,tk,al,sp,s2,s3,ff_8];done))|(refine WK.condF ?_ ?_;focus (simp only[ev_tmp,ev_const,fset_apply,Nat.reduceEqDiff,↓reduceIte,decide_true,decide_false,f6,f7,hil',f4,hout,f2,hres5,tk,al,sp,s2,s3,ff_8];done)))
   have hrl:rows.length=i:=hLt.len
   have hRl:(Mini.rls R (fr.take i))=Mini.rls R fr:=by rw[hie,List.take_length]
   rw[hRl]at hyq
   have hQl:(Mini.rls R fr).length=i:=by unfold Mini.rls;rw[List.length_map,hie]
   have hac:[sl yn i,sl yq i]=acells (some ⟨yn,0,none⟩) (some ⟨yq,0,none⟩) rows (Mini.rls R fr):=by unfold acells;rw[sl_pos hi0,sl_pos hi0,hrl,hQl]
   refine WK.retNil ⟨Or.inr rfl,_,res_dfa (x:=n0+1) ?_ (hset_at H5 (n0+1) _) rfl,fun z hz=>?_,?_⟩
   ·simp only[packed,fset_apply,Nat.reduceEqDiff,↓reduceIte,List.getD_cons_zero,List.getD_cons_succ,f2,ff_8]
   ·show hset H5 (n0+1) _ z=H0 z
    rw[hset_ne _ _ _ (by omega),k5.keep z (by omega)];exact kB.keep z hz
   ·refine⟨rows,Mini.rls R fr,⟨some ⟨yn,0,none⟩,some ⟨yq,0,none⟩,congrArg (fun l=>Value.agg (List.toArray l)) hac,?_,fun _=>⟨yq,0,_,3,true,rfl,(hset_ne _ _ _ (by omega)).trans hyq,fun q y e=>by rw[Nat.zero_add,List.getElem?_map,e];rfl⟩⟩,fun h=>h.elim,?_⟩
    ·exact(hll.keep fun z hz _=>hset_ne _ _ _ (by rcases hz with h|h <;> omega)).r2
    ·exact⟨Mini.at1 K,i,hcls,hprev,by rw[←hfr,hie],hrows,by rw[hfr]⟩
end Go.Proofs.YtjlgpanihjnaeaaGreatDoor
