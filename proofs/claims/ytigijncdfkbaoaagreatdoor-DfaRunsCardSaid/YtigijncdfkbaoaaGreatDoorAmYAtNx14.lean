/- A part of a proof. Its conditions: none. -/
import Derived.Test.YtigijncdfkbaoaaGreatDoorAmYDfKey
import Derived.Test.YtigijncdfkbaoaaGreatDoorAmYAtStart
import Derived.Test.YtigijncdfkbaoaaGreatDoorAmYAtClo
import Derived.Test.YtigijncdfkbaoaaGreatDoorAmC
set_option linter.all false
namespace Go.Proofs.YtigijncdfkbaoaaGreatDoor
open Go.AM
set_option maxRecDepth 100000
def Sep(b:UInt8):Prop:=b=59∨b=32∨b=46
theorem split_eq{P:UInt8→Prop}:∀{A A' B B':List UInt8},(∀b∈A,¬P b)→(∀b∈A',¬P b)→(∀b l,B=b::l→P b)→(∀b l,B'=b::l→P b)→A++B=A'++B'→A=A'∧B=B'
 | [],[],_,_,_,_,_,_,h=>⟨rfl,h⟩
 | [],a::A',B,B',_,h2,h3,_,h=>by
  cases B with
  | nil=>simp at h
  | cons b l =>
   simp at h
   exact absurd (h.1 ▸ h3 b l rfl) (h2 a (by simp))
 | a::A,[],B,B',h1,_,_,h4,h=>by
  cases B' with
  | nil=>simp at h
  | cons b l =>
   simp at h
   exact absurd (h.1 ▸ h4 b l rfl) (h1 a (by simp))
 | a::A,a'::A',B,B',h1,h2,h3,h4,h=>by
  simp at h
  obtain⟨e,h⟩:=h
  obtain⟨e1,e2⟩:=split_eq (P:=P) (A:=A) (A':=A') (fun b hb=>h1 b (by simp[hb])) (fun b hb=>h2 b (by simp[hb])) h3 h4 h
  exact⟨by rw[e,e1],e2⟩
theorem dN_dg(n:Nat):∀b∈dN n,48≤b.toNat∧b.toNat≤57:=by
 induction n using Nat.strongRecOn with
 | _ n ih =>
  intro b hb
  by_cases h:n<10
  ·rw[dN_lt h,List.mem_singleton]at hb
   subst hb
   rw[UInt8.toNat_ofNat']
   omega
  ·rw[dN_ge h]at hb
   rcases List.mem_append.1 hb with h1|h1
   ·exact ih _ (by omega) b h1
   ·rw[List.mem_singleton]at h1
    subst h1
    rw[UInt8.toNat_ofNat']
    omega
theorem dI_nsep(z:Int):∀b∈dI z,¬Sep b:=by
 intro b hb hs
 have h1:b.toNat=45∨(48≤b.toNat∧b.toNat≤57):=by
  unfold dI at hb
  split at hb
  ·rcases List.mem_cons.1 hb with h|h
   ·left;rw[h];rfl
   ·right;exact dN_dg _ b h
  ·right;exact dN_dg _ b hb
 have h2:b.toNat=59∨b.toNat=32∨b.toNat=46:=by
  rcases hs with h|h|h <;> rw[h] <;> decide
 omega
def Cut(B:List UInt8):Prop:=∀b l,B=b::l→Sep b
theorem num_eq{a a':Int}{B B':List UInt8}(h1:Cut B)(h2:Cut B')(h:dI a++B=dI a'++B'):a=a'∧B=B':=by
 obtain⟨e1,e2⟩:=split_eq (P:=Sep) (dI_nsep a) (dI_nsep a') h1 h2 h
 exact⟨dI_inj e1,e2⟩
def Cut59(B:List UInt8):Prop:=B=[]∨∃l,B=59::l
theorem Cut59.cut{B:List UInt8}(h:Cut59 B):Cut B:=by
 intro b l e
 rcases h with h|⟨l',h⟩
 ·rw[h]at e;cases e
 ·rw[h]at e;cases e;exact .inl rfl
theorem spots_cut{l:List (Int × Int)}{T:List UInt8}(h:Cut59 T):Cut (l.flatMap dSp++T):=by
 cases l with
 | nil=>simpa using h.cut
 | cons s l =>
  intro b l' e
  simp[dSp]at e
  exact .inr (.inl e.1.symm)
theorem spots_eq:∀{l l':List (Int × Int)} {T T':List UInt8},Cut59 T→Cut59 T'→l.flatMap dSp++T=l'.flatMap dSp++T'→l=l'∧T=T'
 | [],[],_,_,_,_,h=>⟨rfl,by simpa using h⟩
 | [],s::l',T,T',h1,_,h=>by
  rcases h1 with h1|⟨m,h1⟩ <;> rw[h1]at h <;> simp[dSp]at h
 | s::l,[],T,T',_,h2,h=>by
  rcases h2 with h2|⟨m,h2⟩ <;> rw[h2]at h <;> simp[dSp]at h
 | s::l,s'::l',T,T',h1,h2,h=>by
  have e:32::(dI s.1++(46::(dI s.2++(l.flatMap dSp++T))))=32::(dI s'.1++(46::(dI s'.2++(l'.flatMap dSp++T')))):=by
   simpa [dSp,List.append_assoc] using h
  have e:=List.tail_eq_of_cons_eq e
  obtain⟨a1,e⟩:=num_eq (fun b l e=>by cases e;exact .inr (.inr rfl)) (fun b l e=>by cases e;exact .inr (.inr rfl)) e
  have e:=List.tail_eq_of_cons_eq e
  obtain⟨a2,e⟩:=num_eq (spots_cut h1) (spots_cut h2) e
  obtain⟨a3,a4⟩:=spots_eq h1 h2 e
  exact⟨by rw[a3,show s=s' from Prod.ext a1 a2],a4⟩
theorem cfs_cut(L:List Cfg):Cut59 (L.flatMap dCf):=by
 cases L with
 | nil=>exact .inl rfl
 | cons c L=>exact .inr ⟨_,by simp[dCf];rfl⟩
theorem cfs_eq:∀{L L':List Cfg},L.flatMap dCf=L'.flatMap dCf→L=L'
 | [],[],_=>rfl
 | [],c::L',h=>by simp[dCf]at h
 | c::L,[],h=>by simp[dCf]at h
 | c::L,c'::L',h=>by
  have e:59::(dI c.alt++(((c.rule,c.dot)::c.stack).flatMap dSp++L.flatMap dCf))=59::(dI c'.alt++(((c'.rule,c'.dot)::c'.stack).flatMap dSp++L'.flatMap dCf)):=by
   simpa [dCf,List.append_assoc] using h
  have e:=List.tail_eq_of_cons_eq e
  obtain⟨a1,e⟩:=num_eq (spots_cut (cfs_cut L)) (spots_cut (cfs_cut L')) e
  obtain⟨a2,e⟩:=spots_eq (cfs_cut L) (cfs_cut L') e
  rw[cfs_eq e]
  obtain⟨a3,a4⟩:=List.cons.inj a2
  obtain⟨a5,a6⟩:=Prod.mk.inj a3
  have:c=c':=by
   obtain⟨q1,q2,q3,q4⟩:=c
   obtain⟨r1,r2,r3,r4⟩:=c'
   simp only at a1 a4 a5 a6
   rw[a1,a4,a5,a6]
  rw[this]
theorem dK_inj{r r':Int}{L L':List Cfg}(h:dK r L=dK r' L'):r=r'∧L=L':=by
 obtain⟨a1,a2⟩:=num_eq (cfs_cut L).cut (cfs_cut L').cut h
 exact⟨a1,cfs_eq a2⟩
end Go.Proofs.YtigijncdfkbaoaaGreatDoor

namespace Go.Proofs.YtigijncdfkbaoaaGreatDoor
open Go.AM
set_option maxRecDepth 100000
def spF(P:Program)(i:Nat):Field:=match P.underlying 63 with
 | some (.struct fs)=>fs[i]!
 | _=>default
theorem sp_u:Tryz.prog.underlying 63=some (.struct #[spF Tryz.prog 0,spF Tryz.prog 1]):=by kernel_rfl
theorem sp_i:Tryz.prog.underlying 3=some (.int .i64):=by kernel_rfl
theorem sp_0 : (spF Tryz.prog 0).name = "Rule" := by kernel_rfl
theorem sp_1 : (spF Tryz.prog 1).name = "Dot" := by kernel_rfl
theorem sp_2:(spF Tryz.prog 0).type=3:=by kernel_rfl
theorem sp_3:(spF Tryz.prog 1).type=3:=by kernel_rfl
theorem sp_4:(spF Tryz.prog 0).offset=0:=by kernel_rfl
theorem sp_5:(spF Tryz.prog 1).offset=1:=by kernel_rfl
theorem sp_6:Tryz.prog.stoodInHeld 63=false:=by kernel_rfl
theorem sp_7:Tryz.prog.eqGuardType Tryz.prog.depth 63=false:=by kernel_rfl
theorem pureRun_bnd{P:Program}{α β:Type}(s:Sem α)(f:α→Sem β):pureRun P (Sem.bind s f)=(pureRun P s).bind fun a=>pureRun P (f a):=by
 induction s with
 | pure x=>rfl
 | program k ih=>exact ih P
 | _=>simp[pureRun,Sem.bind]
theorem run_und{P:Program}{t:TypeId}{u:TypeDesc}(h:P.underlying t=some u):pureRun P (underlying t)=some u:=by
 simp[underlying,program,h,pureRun,bind,Sem.bind,pure]
theorem run_part{cs:Array Value}{k:Nat}{v:Value}(h:cs[k]? = some v):pureRun Tryz.prog (part 3 cs k)=some v:=by
 simp[part,isAgg,underlying,program,sp_i,pureRun,bind,Sem.bind,pure,h]
theorem run_eqI(d:Nat)(a b:Int):pureRun Tryz.prog (Op.equalIn (d+1) 3 (.int .i64 a) (.int .i64 b))=some (a == b):=by
 simp[Op.equalIn,underlying,program,sp_i,pureRun,bind,Sem.bind,pure]
theorem eq_sp(a b c e:Int):pureRun Tryz.prog (Op.equal 63 (.agg #[.int .i64 a,.int .i64 b]) (.agg #[.int .i64 c,.int .i64 e]))=some (decide (a=c) && decide (b=e)):=by
 have key:∀d:Nat,(∀x y,pureRun Tryz.prog (Op.equalIn d 3 (.int .i64 x) (.int .i64 y))=some (x == y))→pureRun Tryz.prog (Op.equalIn (d+1) 63 (.agg #[.int .i64 a,.int .i64 b]) (.agg #[.int .i64 c,.int .i64 e]))=some (decide (a=c) && decide (b=e)):=fun d hd=>by
  unfold Op.equalIn
  simp[bind,pureRun_bnd,run_und sp_u,program,pureRun,Sem.bind,pure,sp_0,sp_1,sp_2,sp_3,sp_4,sp_5,sp_6,run_part,hd]
  by_cases h1:a=c
  ·by_cases h2:b=e
   ·simp[bind,pureRun_bnd,pureRun,Sem.bind,run_part,hd,h1,h2]
   ·simp[bind,pureRun_bnd,pureRun,Sem.bind,run_part,hd,h1,h2]
  ·simp[bind,pureRun_bnd,pureRun,Sem.bind,run_part,hd,h1]
 exact key 9999 (run_eqI 9998)
def spN(r:Option Res):Value→Value→Option Res
 | .agg ⟨[.int .i64 a,.int .i64 b]⟩,.agg ⟨[.int .i64 c,.int .i64 e]⟩=>some { v:=.bool (!(decide (a=c) && decide (b=e))) }
 | _,_=>r
theorem aop_spq{f:Fr}{n:Nat}{H:Heap}{d:Option Nat}{u:TypeId}{x y:Operand}{ty:TypeId}{p:String}{af:Array Edge}{gd:Option (Nat × Bool)} :
  aop Tryz.prog (evalA f) n H ⟨d,.binOp .neq 63 x y u,ty,p,af,gd⟩=spN (abin0 Tryz.prog (evalA f) ⟨d,.binOp .neq 63 x y u,ty,p,af,gd⟩ .neq 63 (evalA f x) (evalA f y)) (evalA f x) (evalA f y):=by
 show abin0 Tryz.prog (evalA f) ⟨d,.binOp .neq 63 x y u,ty,p,af,gd⟩ .neq 63 (evalA f x) (evalA f y)=_
 unfold spN
 split
 ·rename_i a b c e hx hy
  have h0:aeqNil Tryz.prog 63 (.agg ⟨[.int .i64 a,.int .i64 b]⟩) (.agg ⟨[.int .i64 c,.int .i64 e]⟩)=none:=by unfold aeqNil;rw[sp_u]
  have h1:anan Tryz.prog .neq 63 (.agg ⟨[.int .i64 a,.int .i64 b]⟩) (.agg ⟨[.int .i64 c,.int .i64 e]⟩)=none:=by unfold anan;rw[sp_u]
  unfold abin0
  rw[hx,hy,h0]
  simp only[h1]
  refine flat_op (by simp[opFlat,Op.operands,hx,hy,flat,flat1]) ?_ (by simp[flat,flat1])
  have hq:=eq_sp a b c e
  simp only[execOp,hx,hy,eqGuard,binOp,bind,pureRun_bnd,program,pureRun,Sem.bind,pure,sp_7]
  simp[pureRun,hq,sp_7,pureRun_bnd]
 ·rfl
set_option maxHeartbeats 16000000 in
theorem same14_gives{a b:CA}{n:Nat}{H:Heap}(hw:WF n H)(ha:StOK H a)(hb:StOK H b)(hla:a.1.stack.length≤65536)(hlb:b.1.stack.length≤65536) :
  Gives Tryz.prog 66 [.agg (ccell a).toArray,.agg (ccell b).toArray] n H fun v _ _=>v=.bool (decide (a.1=b.1)):=by
 refine Gives.of orders ok66 (Nat.le_of_ble_eq_true rfl) ?_
 have v1:∀s,vcells (.agg (ccell s).toArray)=ccell s:=fun _=>rfl
 have v2:∀s,(ccell s).all one=true:=fun _=>rfl
 have v4:∀s,(ccell s)[3]? = some (.slice s.2 s.1.stack.length s.1.stack.length):=fun _=>rfl
 have v0:∀s,(ccell s)[0]? = some (.int .i64 s.1.alt):=fun _=>rfl
 have v5:∀s,(ccell s).length=4:=fun _=>rfl
 have v8:∀s,((ccell s).drop 1).take 2=[.int .i64 s.1.rule,.int .i64 s.1.dot]:=fun _=>rfl
 repeat refine qqn rfl ?_
 (refine qqr ?_;simp only[SS,qx0,simprocAttr,abox,v1,v2,ff_66])
 have k1:=Kp.new n H (.cells (ccell a) 66 true)
 have hA:=hset_at H n (.cells (ccell a) 66 true)
 generalize hset H n (.cells (ccell a) 66 true)=H1 at *
 have k2:=Kp.new (n+1) H1 (.cells (ccell b) 66 true)
 have hB:=hset_at H1 (n+1) (.cells (ccell b) 66 true)
 generalize hset H1 (n+1) (.cells (ccell b) 66 true)=H2 at *
 have hA2:=(k2.keep n (by omega)).trans hA
 have k12:=k1.trans k2
 have hw2:=k12.wf hw
 have ha2:=ha.mono hw k12
 have hb2:=hb.mono hw k12
 by_cases e1:a.1.alt=b.1.alt
 ·by_cases e2:a.1.rule=b.1.rule
  ·by_cases e4:a.1.dot=b.1.dot
   ·by_cases e3:a.1.stack.length=b.1.stack.length
    ·have e3':((a.1.stack.length:Int)=(b.1.stack.length:Int)):=by rw[e3]
     repeat (first|refine qqm rfl ?_|((first|refine qqr ?_|refine qqt ?_);simp only[SS,qx0,simprocAttr,hA2,hB,v0,v4,v5,v8,aop_spq,spN,e1,e2,e4,e3,e3',ff_66]))
     refine WK.loop (fun kk s=>∃i:Nat,s.n=n+1+1∧s.H=H2∧s.f 2=.pointer (some ⟨n,0,none⟩)∧s.f 3=.pointer (some ⟨n+1,0,none⟩)∧s.f 5=.int .i64 (i:Nat)∧i≤a.1.stack.length∧a.1.stack.take i=b.1.stack.take i∧kk=a.1.stack.length - i) a.1.stack.length ?_ ?_
     ·exact⟨0,rfl,rfl,rfl,rfl,rfl,Nat.zero_le _,rfl,rfl⟩
     rintro kk ⟨f,n4,H4⟩ ⟨i,rfl,rfl,f2,f3,f5,hil,htk,rfl⟩ ih
     simp only at f2 f3 f5 ih hA2 hB k12 hw2 ha2 hb2
     by_cases hlt:i<a.1.stack.length
     ·have hlt2:i<b.1.stack.length:=by omega
      obtain⟨u,k0,cs,ty,own,q1,q2,q3,q4⟩:=ha2.at spC_len hlt
      obtain⟨u',k0',cs',ty',own',q1',q2',q3',q4'⟩:=hb2.at spC_len hlt2
      have hiw:IntKind.i64.wrap ((i:Int)+1)=((i+1:Nat):Int):=by rw[wrap_in (by omega) (by omega)];rfl
      have s3:∀s,(spC s)=[.int .i64 s.1,.int .i64 s.2]:=fun _=>rfl
      rw[s3]at q3 q3'
      by_cases h1:a.1.stack[i].1=b.1.stack[i].1∧a.1.stack[i].2=b.1.stack[i].2
      ·obtain⟨h1,h2⟩:=h1
       repeat (first|refine qqm rfl ?_|((first|refine qqr ?_|refine qqt ?_);simp only[SS,qx0,simprocAttr,aop_spq,spN,Bool.false_and,Bool.not_false,f2,f3,f5,hlt,hlt2,hA2,hB,v4,q1,q2,q3,q4,q1',q2',q3',q4',hiw,h1,h2,e3,ff_66]))
       refine ih (a.1.stack.length - (i+1)) (by omega) _ ⟨i+1,rfl,rfl,f2,f3,rfl,hlt,?_,rfl⟩
       rw[List.take_add_one,List.take_add_one,htk,List.getElem?_eq_getElem hlt,List.getElem?_eq_getElem hlt2,Prod.ext h1 h2]
      ·have hne:a.1≠b.1:=fun h=>h1 (by simp only[h];exact⟨trivial,trivial⟩)
       by_cases h2:a.1.stack[i].1=b.1.stack[i].1
       ·have h3:¬a.1.stack[i].2=b.1.stack[i].2:=fun h=>h1 ⟨h2,h⟩
        repeat (first|refine qqm rfl ?_|((first|refine qqr ?_|refine qqt ?_);simp only[SS,qx0,simprocAttr,aop_spq,spN,Bool.false_and,Bool.not_false,f2,f3,f5,hlt,hlt2,hA2,hB,v4,q1,q2,q3,q4,q1',q2',q3',q4',hiw,h2,h3,e3,ff_66]))
        first|refine qqf ?_ ?_|refine qqg ?_ ?_
        ·exact k12.keep
        ·simp only[packed,qv,Nat.reduceEqDiff,↓reduceIte,hne,decide_false,ff_66]
       ·repeat (first|refine qqm rfl ?_|((first|refine qqr ?_|refine qqt ?_);simp only[SS,qx0,simprocAttr,aop_spq,spN,Bool.false_and,Bool.not_false,f2,f3,f5,hlt,hlt2,hA2,hB,v4,q1,q2,q3,q4,q1',q2',q3',q4',hiw,h2,e3,ff_66]))
        first|refine qqf ?_ ?_|refine qqg ?_ ?_
        ·exact k12.keep
        ·simp only[packed,qv,Nat.reduceEqDiff,↓reduceIte,hne,decide_false,ff_66]
     ·obtain rfl:i=a.1.stack.length:=by omega
      have heq:a.1=b.1:=by
       rcases hA1:a.1 with⟨p1,p2,p3,p4⟩
       rcases hB1:b.1 with⟨r1,r2,r3,r4⟩
       rw[hA1,hB1]at e1 e2 e4 e3 htk
       simp only at e1 e2 e4 e3 htk
       rw[List.take_length,e3,List.take_length]at htk
       rw[e1,e2,e4,htk]
      repeat (first|refine qqm rfl ?_|((first|refine qqr ?_|refine qqt ?_);simp only[SS,qx0,simprocAttr,f2,f3,f5,hA2,v4,hlt,ff_66]))
      first|refine qqf ?_ ?_|refine qqg ?_ ?_
      ·exact k12.keep
      ·simp only[packed,qv,Nat.reduceEqDiff,↓reduceIte,heq,decide_true,ff_66]
    ·have e3':((a.1.stack.length:Int)=(b.1.stack.length:Int))=False:=eq_false (by omega)
     have hne:a.1≠b.1:=fun h=>e3 (by rw[h])
     repeat (first|refine qqm rfl ?_|((first|refine qqr ?_|refine qqt ?_);simp only[SS,qx0,simprocAttr,hA2,hB,v0,v4,v5,v8,aop_spq,spN,e1,e2,e4,e3',decide_false,ff_66]))
     first|refine qqf ?_ ?_|refine qqg ?_ ?_
     ·exact k12.keep
     ·simp only[packed,qv,Nat.reduceEqDiff,↓reduceIte,hne,decide_false,ff_66]
   ·have hne:a.1≠b.1:=fun h=>e4 (by rw[h])
    repeat (first|refine qqm rfl ?_|((first|refine qqr ?_|refine qqt ?_);simp only[SS,qx0,simprocAttr,hA2,hB,v0,v4,v5,v8,aop_spq,spN,e1,e2,e4,decide_false,decide_true,Bool.and_false,Bool.not_false,ff_66]))
    first|refine qqf ?_ ?_|refine qqg ?_ ?_
    ·exact k12.keep
    ·simp only[packed,qv,Nat.reduceEqDiff,↓reduceIte,hne,decide_false,ff_66]
  ·have hne:a.1≠b.1:=fun h=>e2 (by rw[h])
   repeat (first|refine qqm rfl ?_|((first|refine qqr ?_|refine qqt ?_);simp only[SS,qx0,simprocAttr,hA2,hB,v0,v4,v5,v8,aop_spq,spN,e1,e2,decide_false,Bool.false_and,Bool.not_false,ff_66]))
   first|refine qqf ?_ ?_|refine qqg ?_ ?_
   ·exact k12.keep
   ·simp only[packed,qv,Nat.reduceEqDiff,↓reduceIte,hne,decide_false,ff_66]
 ·have hne:a.1≠b.1:=fun h=>e1 (by rw[h])
  repeat (first|refine qqm rfl ?_|((first|refine qqr ?_|refine qqt ?_);simp only[SS,qx0,simprocAttr,hA2,hB,v0,v4,v5,v8,aop_spq,spN,e1,ff_66]))
  first|refine qqf ?_ ?_|refine qqg ?_ ?_
  ·exact k12.keep
  ·simp only[packed,qv,Nat.reduceEqDiff,↓reduceIte,hne,decide_false,ff_66]
end Go.Proofs.YtigijncdfkbaoaaGreatDoor

namespace Go.Proofs.YtigijncdfkbaoaaGreatDoor
open Go.AM
set_option maxRecDepth 100000
inductive RchC(g:Gram)(cl:List (List (Int × Int)))(l:List Cfg):Cfg→Prop where
 | base {c:Cfg} (h:c∈l):RchC g cl l c
 | step {c d:Cfg} (h:RchC g cl l c) (k:d∈stepL g cl c):RchC g cl l d
structure Full(g:Gram)(cl:List (List (Int × Int)))(deep most:Nat)(l A:List Cfg):Prop where
 nd:A.Nodup
 mem:∀c,c∈A↔RchC g cl l c
 len:A.length≤most
 dp:∀c∈A,c.stack.length≤deep
def Short(g:Gram)(cl:List (List (Int × Int)))(deep most:Nat)(l:List Cfg):Prop :=
 (∃c,RchC g cl l c∧deep<c.stack.length)∨∃A:List Cfg,A.Nodup∧(∀c∈A,RchC g cl l c)∧most<A.length
variable {g:Gram} {cl:List (List (Int × Int))} {deep most:Nat} {l:List Cfg}
theorem Full.not{A:List Cfg}(h:Full g cl deep most l A)(k:Short g cl deep most l):False:=by
 rcases k with⟨c,hc,hd⟩|⟨B,h1,h2,h3⟩
 ·have:=h.dp c ((h.mem c).2 hc);omega
 ·have:=nodup_sub_len _ _ h1 fun c hc=>(h.mem c).2 (h2 c hc)
  have:=h.len
  omega
theorem Full.of{A:List Cfg}(nd:A.Nodup)(hr:∀c∈A,RchC g cl l c)(hb:∀c∈l,c∈A)(hs:∀c∈A,∀d∈stepL g cl c,d∈A)(len:A.length≤most)(dp:∀c∈A,c.stack.length≤deep):Full g cl deep most l A :=
 ⟨nd,fun c=>⟨hr c,fun h=>by induction h with|base h=>exact hb _ h|step _ k ih=>exact hs _ ih _ k⟩,len,dp⟩
theorem Come.more{S T S' T':List CA}{x:CA}(h:Come deep most S T x S' T')(hn:(S.map (·.1)).Nodup)(hT:∀y∈T,y.1∈S.map (·.1))(hl:S.length≤most) :
  (S'.map (·.1)).Nodup∧(∀y∈T',y.1∈S'.map (·.1))∧(∀y∈T,y∈T')∧(∀c∈S'.map (·.1),c∈S.map (·.1)∨c∈T'.map (·.1))∧S'.length≤most:=by
 have hm:=h.mem
 cases h with
 | old h=>exact⟨hn,hT,fun y hy=>hy,fun c hc=>.inl hc,hl⟩
 | new h hd hlt i hi =>
  refine⟨?_,fun y hy=>?_,fun y hy=>List.mem_append_left _ hy,fun c hc=>?_,by simp;omega⟩
  ·rw[List.map_append,List.map_append,List.append_assoc]
   have e:S.map (·.1)=(S.take i).map (·.1)++(S.drop i).map (·.1):=by rw[←List.map_append,List.take_append_drop]
   rw[e]at hn h
   rw[List.nodup_append]at hn ⊢
   obtain⟨h1,h2,h3⟩:=hn
   refine⟨h1,?_,fun a ha b hb=>?_⟩
   ·rw[List.map_cons,List.map_nil,List.singleton_append,List.nodup_cons]
    exact⟨fun hx=>h (List.mem_append_right _ hx),h2⟩
   ·rw[List.map_cons,List.map_nil,List.singleton_append,List.mem_cons]at hb
    rcases hb with rfl|hb
    ·rintro rfl;exact h (List.mem_append_left _ ha)
    ·exact h3 a ha b hb
  ·rcases List.mem_append.1 hy with hy|hy
   ·exact(hm _).2 (.inl (hT y hy))
   ·rw[List.mem_singleton]at hy;rw[hy];exact(hm _).2 (.inr rfl)
  ·rcases(hm c).1 hc with hc|rfl
   ·exact .inl hc
   ·exact .inr (List.mem_map.2 ⟨x,by simp,rfl⟩)
theorem Comes.more{S T S' T':List CA}{r:List Cfg}{b:Bool}(h:Comes deep most S T r b S' T')(hn:(S.map (·.1)).Nodup)(hT:∀y∈T,y.1∈S.map (·.1))(hl:S.length≤most) :
  (S'.map (·.1)).Nodup∧(∀y∈T',y.1∈S'.map (·.1))∧(∀y∈T,y∈T')∧(∀c∈S'.map (·.1),c∈S.map (·.1)∨c∈T'.map (·.1))∧S'.length≤most:=by
 induction h with
 | nil=>exact⟨hn,hT,fun y hy=>hy,fun c hc=>.inl hc,hl⟩
 | fail=>exact⟨hn,hT,fun y hy=>hy,fun c hc=>.inl hc,hl⟩
 | cons h _ ih =>
  obtain⟨a1,a2,a3,a4,a5⟩:=h.more hn hT hl
  obtain⟨b1,b2,b3,b4,b5⟩:=ih a1 a2 a5
  refine⟨b1,b2,fun y hy=>b3 y (a3 y hy),fun c hc=>?_,b5⟩
  rcases b4 c hc with hc|hc
  ·rcases a4 c hc with hc|hc
   ·exact .inl hc
   ·obtain⟨y,hy,rfl⟩:=List.mem_map.1 hc
    exact .inr (List.mem_map.2 ⟨y,b3 y hy,rfl⟩)
  ·exact .inr hc
theorem Comes.bad{S T S' T':List CA}{r:List Cfg}{b:Bool}(h:Comes deep most S T r b S' T')(hb:b=false):(∃c∈r,deep<c.stack.length)∨∃c∈r,c∉S'.map (·.1)∧most≤S'.length:=by
 induction h with
 | nil=>cases hb
 | fail h =>
  rcases h with h|⟨h1,h2⟩
  ·exact .inl ⟨_,List.mem_cons_self ..,h⟩
  ·exact .inr ⟨_,List.mem_cons_self ..,h1,h2⟩
 | cons _ _ ih =>
  rcases ih hb with⟨c,hc,h⟩|⟨c,hc,h⟩
  ·exact .inl ⟨c,List.mem_cons_of_mem _ hc,h⟩
  ·exact .inr ⟨c,List.mem_cons_of_mem _ hc,h⟩
structure PI(g:Gram)(cl:List (List (Int × Int)))(deep most:Nat)(l:List Cfg)(S T:List CA):Prop where
 nd:(S.map (·.1)).Nodup
 r:∀y∈S++T,RchC g cl l y.1
 dp:∀y∈S++T,y.1.stack.length≤deep
 sub:∀y∈T,y.1∈S.map (·.1)
 cls:∀c∈S.map (·.1),(∀d∈stepL g cl c,d∈S.map (·.1))∨c∈T.map (·.1)
 base:∀c∈l,c∈S.map (·.1)
 len:S.length≤most
theorem short_of{S T S' T':List CA}{r:List Cfg}(h:Comes deep most S T r false S' T')(hn:(S.map (·.1)).Nodup)(hT:∀y∈T,y.1∈S.map (·.1))(hl:S.length≤most)(hR:∀y∈S++T,RchC g cl l y.1)(hr:∀c∈r,RchC g cl l c):Short g cl deep most l:=by
 rcases h.bad rfl with⟨c,hc,hd⟩|⟨c,hc,h1,h2⟩
 ·exact .inl ⟨c,hr c hc,hd⟩
 ·refine .inr ⟨c::S'.map (·.1),List.nodup_cons.2 ⟨h1,(h.more hn hT hl).1⟩,fun d hd=>?_,by simp;omega⟩
  rcases List.mem_cons.1 hd with rfl|hd
  ·exact hr _ hc
  ·obtain⟨y,hy,rfl⟩:=List.mem_map.1 hd
   exact h.all hR (fun c hc _=>hr c hc) y (List.mem_append_left _ hy)
theorem Pops.spec{S T S':List CA}{b:Bool}(h:Pops g cl deep most S T b S')(hp:PI g cl deep most l S T):(b=true→Full g cl deep most l (S'.map (·.1)))∧(b=false→Short g cl deep most l):=by
 induction h with
 | done S =>
  refine⟨fun _=>Full.of hp.nd (fun c hc=>?_) hp.base (fun c hc=>?_) (by rw[List.length_map];exact hp.len) (fun c hc=>?_),fun e=>by cases e⟩
  ·obtain⟨y,hy,rfl⟩:=List.mem_map.1 hc
   exact hp.r y (List.mem_append_left _ hy)
  ·rcases hp.cls c hc with h|h
   ·exact h
   ·simp at h
  ·obtain⟨y,hy,rfl⟩:=List.mem_map.1 hc
   exact hp.dp y (List.mem_append_left _ hy)
 | @fail S T S' T' x h =>
  refine⟨fun e=>(by cases e),fun _=>short_of h hp.nd (fun y hy=>hp.sub y (List.mem_append_left _ hy)) hp.len (fun y hy=>?_) fun c hc=>.step (hp.r x (by simp)) hc⟩
  rcases List.mem_append.1 hy with hy|hy
  ·exact hp.r y (List.mem_append_left _ hy)
  ·exact hp.r y (List.mem_append_right _ (List.mem_append_left _ hy))
 | @step S T S' T' S2 x b h k ih =>
  obtain⟨a1,a2,a3,a4,a5⟩:=h.more hp.nd (fun y hy=>hp.sub y (List.mem_append_left _ hy)) hp.len
  have hST:∀y∈S++T,y∈S++(T++[x]):=fun y hy=>by
   rcases List.mem_append.1 hy with hy|hy
   ·exact List.mem_append_left _ hy
   ·exact List.mem_append_right _ (List.mem_append_left _ hy)
  have hm:=h.mem rfl
  refine ih ⟨a1,h.all (fun y hy=>hp.r y (hST y hy)) fun c hc _=>.step (hp.r x (by simp)) hc,h.all (fun y hy=>hp.dp y (hST y hy)) fun c _ hd=>hd,a2,fun c hc=>?_,fun c hc=>(hm c).2 (.inl (hp.base c hc)),a5⟩
  rcases a4 c hc with h1|h1
  ·rcases hp.cls c h1 with h2|h2
   ·exact .inl fun d hd=>(hm d).2 (.inl (h2 d hd))
   ·rw[List.map_append,List.mem_append]at h2
    rcases h2 with h2|h2
    ·obtain⟨y,hy,rfl⟩:=List.mem_map.1 h2
     exact .inr (List.mem_map.2 ⟨y,a3 y hy,rfl⟩)
    ·rw[List.map_cons,List.map_nil,List.mem_singleton]at h2
     rw[h2]
     exact .inl fun d hd=>(hm d).2 (.inr hd)
  ·exact .inr h1
theorem Clo.spec{S:List CA}{b:Bool}(h:Clo g cl deep most l b S):(b=true→Full g cl deep most l (S.map (·.1)))∧(b=false→Short g cl deep most l):=by
 cases h with
 | fail h=>exact⟨fun e=>(by cases e),fun _=>short_of h (by simp) (by simp) (Nat.zero_le _) (by simp) fun c hc=>.base hc⟩
 | run h k =>
  obtain⟨a1,a2,a3,a4,a5⟩:=h.more (by simp) (by simp) (Nat.zero_le _)
  have hm:=h.mem rfl
  refine k.spec ⟨a1,h.all (by simp) fun c hc _=>.base hc,h.all (by simp) fun c _ hd=>hd,a2,fun c hc=>?_,fun c hc=>(hm c).2 (.inr hc),a5⟩
  rcases a4 c hc with h1|h1
  ·simp at h1
  ·exact .inr h1
def addL(L:List Cfg)(c:Cfg):List Cfg:=if c∈L then L else L++[c]
theorem addL_mem{L:List Cfg}{c d:Cfg}:d∈addL L c↔d∈L∨d=c:=by
 unfold addL
 split
 ·rename_i h
  exact⟨.inl,fun e=>e.elim id fun e=>e ▸ h⟩
 ·simp
theorem addL_nd{L:List Cfg}{c:Cfg}(h:L.Nodup):(addL L c).Nodup:=by
 unfold addL
 split
 ·exact h
 ·rename_i hc
  rw[List.nodup_append]
  exact⟨h,by simp,fun a ha b hb=>by rw[List.mem_singleton]at hb;rw[hb];rintro rfl;exact hc ha⟩
theorem addL_pre{L:List Cfg}{c:Cfg}:∃M,addL L c=L++M:=by
 unfold addL
 split
 ·exact⟨[],by simp⟩
 ·exact⟨[c],rfl⟩
def addsL(L:List Cfg)(M:List Cfg):List Cfg:=M.foldl addL L
theorem addsL_mem{d:Cfg}:∀{M L:List Cfg},d∈addsL L M↔d∈L∨d∈M
 | [],L=>by unfold addsL;simp
 | c::M,L=>by
  show d∈addsL (addL L c) M↔_
  rw[addsL_mem,addL_mem,List.mem_cons,or_assoc]
theorem addsL_nd:∀{M L:List Cfg},L.Nodup→(addsL L M).Nodup
 | [],L,h=>h
 | c::M,L,h=>addsL_nd (M:=M) (addL_nd h)
theorem addsL_pre:∀{M L:List Cfg},∃N,addsL L M=L++N
 | [],L=>⟨[],by unfold addsL;simp⟩
 | c::M,L=>by
  obtain⟨N1,h1⟩:=addL_pre (L:=L) (c:=c)
  obtain⟨N2,h2⟩:=addsL_pre (M:=M) (L:=addL L c)
  exact⟨N1++N2,by show addsL (addL L c) M=_;rw[h2,h1,List.append_assoc]⟩
structure DI(g:Gram)(cl:List (List (Int × Int)))(deep most:Nat)(l A:List Cfg)(at_:Nat):Prop where
 nd:A.Nodup
 r:∀c∈A,RchC g cl l c
 base:∀c∈l,c∈A
 dp:∀k (h:k<A.length),k<at_→A[k].stack.length≤deep
 cls:∀k (h:k<A.length),k<at_→∀d∈stepL g cl A[k],d∈A
 len:A.length≤most∨at_<A.length
 le:at_≤A.length
theorem DI.first:DI g cl deep most l (addsL [] l) 0 where
 nd:=addsL_nd (by simp)
 r:=fun c hc=>by rcases addsL_mem.1 hc with h|h;simp at h;exact .base h
 base:=fun c hc=>addsL_mem.2 (.inr hc)
 dp:=fun k _ h=>absurd h (Nat.not_lt_zero _)
 cls:=fun k _ h=>absurd h (Nat.not_lt_zero _)
 len:=by by_cases h:0<(addsL [] l).length;exact .inr h;exact .inl (by omega)
 le:=Nat.zero_le _
theorem DI.next{A:List Cfg}{at_:Nat}(h:DI g cl deep most l A at_)(hlt:at_<A.length)(hm:A.length≤most)(hd:A[at_].stack.length≤deep):DI g cl deep most l (addsL A (stepL g cl A[at_])) (at_+1):=by
 obtain⟨N,hN⟩:=addsL_pre (M:=stepL g cl A[at_]) (L:=A)
 have hget:∀k (hk:k<(addsL A (stepL g cl A[at_])).length),k<at_+1→∃hk':k<A.length,(addsL A (stepL g cl A[at_]))[k]=A[k]:=fun k hk hk1=>⟨by omega,by simp only[hN];rw[List.getElem_append_left]⟩
 have hlen:(addsL A (stepL g cl A[at_])).length=A.length+N.length:=by rw[hN,List.length_append]
 refine⟨addsL_nd h.nd,fun c hc=>?_,fun c hc=>addsL_mem.2 (.inl (h.base c hc)),fun k hk hk1=>?_,fun k hk hk1 d hd'=>?_,?_,by omega⟩
 ·rcases addsL_mem.1 hc with hc|hc
  ·exact h.r c hc
  ·exact .step (h.r _ (List.getElem_mem hlt)) hc
 ·obtain⟨hk',e⟩:=hget k hk hk1
  rw[e]
  by_cases hka:k<at_
  ·exact h.dp k hk' hka
  ·obtain rfl:k=at_:=by omega
   exact hd
 ·obtain⟨hk',e⟩:=hget k hk hk1
  rw[e]at hd'
  by_cases hka:k<at_
  ·exact addsL_mem.2 (.inl (h.cls k hk' hka d hd'))
  ·obtain rfl:k=at_:=by omega
   exact addsL_mem.2 (.inr hd')
 ·by_cases hz:N.length=0
  ·exact .inl (by omega)
  ·exact .inr (by omega)
theorem DI.short{A:List Cfg}{at_:Nat}(h:DI g cl deep most l A at_)(hlt:at_<A.length)(hb:most<A.length∨deep<A[at_].stack.length):Short g cl deep most l:=by
 rcases hb with hb|hb
 ·exact .inr ⟨A,h.nd,h.r,hb⟩
 ·exact .inl ⟨_,h.r _ (List.getElem_mem hlt),hb⟩
theorem DI.full{A:List Cfg}(h:DI g cl deep most l A A.length):Full g cl deep most l A:=by
 refine Full.of h.nd h.r h.base (fun c hc=>?_) (by rcases h.len with h|h;exact h;omega) fun c hc=>?_
 ·obtain⟨k,hk,rfl⟩:=List.getElem_of_mem hc
  exact h.cls k hk hk
 ·obtain⟨k,hk,rfl⟩:=List.getElem_of_mem hc
  exact h.dp k hk hk
end Go.Proofs.YtigijncdfkbaoaaGreatDoor

namespace Go.Proofs.YtigijncdfkbaoaaGreatDoor
open Go.AM
set_option maxRecDepth 100000
abbrev lv{α:Type}(y:Nat)(L:List α):Value:=.slice (some ⟨y,0,none⟩) L.length L.length
theorem cc_at{L:List CA}{i:Nat}(h:i<L.length):((L.flatMap ccell).drop (i*4)).take 4=ccell L[i]:=flat_at ccell_len L i h
set_option maxHeartbeats 16000000 in
theorem add14_gives{y n:Nat}{H:Heap}{L:List CA}{x:CA}(hw:WF n H)(hy:H y=.cells (L.flatMap ccell) 66 true)(hL:∀z∈L,StOK H z)(hx:StOK H x)(hl:L.length≤65536)(hls:∀z∈L,z.1.stack.length≤65536)(hlx:x.1.stack.length≤65536) :
  GivesX Tryz.prog (fun z=>z=y) 44 [lv y L,.agg (ccell x).toArray] n H fun v n' H'=>∃y' L',v=lv y' L'∧H' y'=.cells (L'.flatMap ccell) 66 true∧L'.map (·.1)=addL (L.map (·.1)) x.1∧(∀z∈L',z∈L∨z=x)∧(y'=y∨n≤y'):=by
 refine GivesX.of orders ok44 (Nat.le_of_ble_eq_true rfl) ?_
 have v1:∀s,vcells (.agg (ccell s).toArray)=ccell s:=fun _=>rfl
 have v2:∀s,(ccell s).all one=true:=fun _=>rfl
 have v5:∀s,(ccell s).length=4:=fun _=>rfl
 have v6:∀s,((ccell s).drop 0).take 4=ccell s:=fun _=>rfl
 have v7:∀s,(ccell s).take 4=ccell s:=fun _=>rfl
 have hyn:=live_lt hw (live_of hy)
 have hfl:(L.flatMap ccell).length=L.length*4:=fm_len ccell_len L
 repeat refine qqn rfl ?_
 (refine qqr ?_;simp only[SS,qx39,simprocAttr,abox,v1,v2,ff_44])
 have k1:=Kp.new n H (.cells (ccell x) 66 true)
 have hX:=hset_at H n (.cells (ccell x) 66 true)
 generalize hset H n (.cells (ccell x) 66 true)=H1 at *
 have hw1:=k1.wf hw
 repeat (first|refine qqm rfl ?_|((first|refine qqr ?_|refine qqt ?_);simp only[SS,qx39,simprocAttr,ff_44]))
 refine WK.loop (fun kk s=>∃i:Nat,Kp (n+1) H1 s.n s.H∧s.f 0=lv y L∧s.f 3=.pointer (some ⟨n,0,none⟩)∧s.f 5=.int .i64 (i:Nat)∧i≤L.length∧x.1∉(L.take i).map (·.1)∧kk=L.length - i) L.length ?_ ?_
 ·exact⟨0,Kp.refl _ _,rfl,rfl,rfl,Nat.zero_le _,by simp,rfl⟩
 rintro kk ⟨f,n2,H2⟩ ⟨i,k2,f0,f3,f5,hil,hni,rfl⟩ ih
 simp only at k2 f0 f3 f5 ih
 have hw2:=k2.wf hw1
 have k12:=k1.trans k2
 have hX2:=(k2.keep n (by omega)).trans hX
 have hy2:=(k12.keep y hyn).trans hy
 by_cases hlt:i<L.length
 ·have hiw:IntKind.i64.wrap ((i:Int)+1)=((i+1:Nat):Int):=by rw[wrap_in (by omega) (by omega)];rfl
  have hb:i*4+4≤L.length*4:=by omega
  repeat (first|refine qqm rfl ?_|((first|refine qqr ?_|refine qqt ?_);simp only[SS,qx39,simprocAttr,f0,f3,f5,hlt,hy2,hX2,hfl,hb,v5,v6,cc_at hlt,Nat.zero_add,ff_44]))
  refine AtCall.by (same14_gives hw2 ((hL _ (List.getElem_mem hlt)).mono hw k12) (hx.mono hw k12) (hls _ (List.getElem_mem hlt)) hlx) ?_
  rintro _ n3 H3 k3 rfl
  by_cases he:L[i].1=x.1
  ·simp only[SS,qx39,simprocAttr,he,decide_true,ff_44]
   repeat (first|refine qqm rfl ?_|((first|refine qqr ?_|refine qqt ?_);simp only[SS,qx39,simprocAttr,f0,ff_44]))
   refine WK.retNil ⟨Or.inr rfl,_,rfl,fun z hz _=>(k12.trans k3).keep z hz,?_⟩
   refine⟨y,L,rfl,((k12.trans k3).keep y hyn).trans hy,?_,fun z hz=>.inl hz,.inl rfl⟩
   unfold addL
   rw[if_pos (List.mem_map.2 ⟨_,List.getElem_mem hlt,he⟩)]
  ·simp only[SS,qx39,simprocAttr,he,decide_false,ff_44]
   repeat (first|refine qqm rfl ?_|((first|refine qqr ?_|refine qqt ?_);simp only[SS,qx39,simprocAttr,f0,f3,f5,hiw,ff_44]))
   refine ih (L.length - (i+1)) (by omega) _ ⟨i+1,k2.trans k3,f0,f3,rfl,hlt,?_,rfl⟩
   rw[List.take_add_one,List.getElem?_eq_getElem hlt,List.map_append,List.mem_append]
   rintro(h|h)
   ·exact hni h
   ·simp at h;exact he h.symm
 ·obtain rfl:i=L.length:=by omega
  have bl:L.length+1≤bigN:=by unfold bigN;omega
  have hct:[n2].contains y=false:=by simp;have:=k12.le;omega
  have hy3:∀o,hset H2 n2 o y=_:=fun o=>(hset_ne _ _ _ (by have:=k12.le;omega)).trans hy2
  have htk:(L.flatMap ccell).take (L.length*4)=L.flatMap ccell:=List.take_of_length_le (by omega)
  have hs4:∀(a b c d:Value) (x:CA),AM.splice [a,b,c,d] 0 (ccell x)=ccell x:=fun _ _ _ _ _=>rfl
  repeat (first|refine qqm rfl ?_|((first|refine qqr ?_|refine qqt ?_);simp only[SS,qx39,simprocAttr,f0,f3,f5,hlt,hX2,hy3,hs4,hct,bl,hfl,htk,v5,v6,v7,v1,v2,hset_at,Nat.le_refl,List.drop_zero,ff_44]))
  have hle2:=k12.le
  refine WK.retNil ⟨Or.inr rfl,_,rfl,fun z hz hzy=>?_,?_⟩
  ·exact(hset_ne _ _ _ (by omega)).trans ((hset_ne _ _ _ hzy).trans ((hset_ne _ _ _ (by omega)).trans (k12.keep z hz)))
  ·refine⟨n2+1,L++[x],by simp only[lv,List.length_append,List.length_singleton];rfl,?_,?_,fun z hz=>?_,.inr (by omega)⟩
   ·rw[List.flatMap_append,List.flatMap_singleton];exact hset_at _ _ _
   ·unfold addL
    rw[List.take_length]at hni
    rw[if_neg hni,List.map_append];rfl
   ·rcases List.mem_append.1 hz with h|h
    ·exact .inl h
    ·exact .inr (List.mem_singleton.1 h)
end Go.Proofs.YtigijncdfkbaoaaGreatDoor

namespace Go.Proofs.YtigijncdfkbaoaaGreatDoor
open Go.AM
set_option maxRecDepth 100000
set_option maxHeartbeats 8000000 in
theorem next14_gives{n:Nat}{H:Heap}{x:CA}{v:Value}{g:Gram}(hw:WF n H)(hg:RG H v g)(hi:InG g)(hgl:g.terms.length≤64∧g.vars.length≤64)(hlen:∀r∈g.rules,r.right.length≤24)(gc:VC g x.1) :
  Gives Tryz.prog 22 [v,.agg (ccell x).toArray] n H fun v _ _=>v=.int .i64 (nextL g x.1):=by
 have hg0:=hg
 obtain⟨pt,pv,pr,rfl,ht,hv,hr⟩:=hg
 refine Gives.of orders ok22 (Nat.le_of_ble_eq_true rfl) ?_
 have v1:∀s,vcells (.agg (ccell s).toArray)=ccell s:=fun _=>rfl
 have v2:∀s,(ccell s).all one=true:=fun _=>rfl
 have v3:∀s,(ccell s)[1]? = some (.int .i64 s.1.rule):=fun _=>rfl
 have v8:∀s,(ccell s)[2]? = some (.int .i64 s.1.dot):=fun _=>rfl
 have v5:∀s,(ccell s).length=4:=fun _=>rfl
 repeat refine qqn rfl ?_
 (refine qqr ?_;simp only[SS,qx2,vun,simprocAttr,abox,box_cells,box_one,v1,v2,ff_22])
 have k1:=Kp.new n H (.cells (gcells pt pv pr g) 25 true)
 have hG:=hset_at H n (.cells (gcells pt pv pr g) 25 true)
 generalize hset H n (.cells (gcells pt pv pr g) 25 true)=H1 at *
 have k2:=Kp.new (n+1) H1 (.cells (ccell x) 66 true)
 have hb:=hset_at H1 (n+1) (.cells (ccell x) 66 true)
 generalize hset H1 (n+1) (.cells (ccell x) 66 true)=H2 at *
 have hG2:=(k2.keep n (by omega)).trans hG
 have k12:=k1.trans k2
 have hw2:=k12.wf hw
 by_cases hneg:x.1.rule<0
 ·repeat (first|refine qqm rfl ?_|((first|refine qqr ?_|refine qqt ?_);simp only[SS,qx2,vun,simprocAttr,hb,v3,v5,hneg,ff_22]))
  first|refine qqf ?_ ?_|refine qqg ?_ ?_
  ·exact k12.keep
  ·simp only[packed,qv,Nat.reduceEqDiff,↓reduceIte,ff_22]
   unfold nextL
   rw[if_pos hneg]
 obtain⟨r,hrr⟩:∃r:Nat,x.1.rule=r:=⟨x.1.rule.toNat,by omega⟩
 have hneg':(((r:Nat):Int)<0)=False:=eq_false (by omega)
 have hrl:r<g.rules.length:=by have:=gc.1;omega
 have hrg:g.rules[x.1.rule.toNat]? = some g.rules[r]:=by rw[hrr,Int.toNat_natCast,List.getElem?_eq_getElem hrl]
 obtain⟨hd0,hd1⟩:=gc.2 _ (by omega) hrg
 obtain⟨z,kz,ds,tz,oz,pp,hpr,hz,d0,d1,d2,hpp⟩:=(hr.mono hw k12).at hrl
 have hzn:=live_lt hw2 (live_of hz)
 have d3:=take3 d0 d1 d2
 have d4:=len3 d2
 have hmem:=List.getElem_mem hrl
 have hri:=hi.right _ hmem
 have hrT:=hi.rightT _ hmem
 have hrl24:=hlen _ hmem
 have hsl:nextL g x.1=if x.1.dot=(g.rules[r].right.length:Int) then -2 else match g.rules[r].right[x.1.dot.toNat]? with
  | none=>-2
  | some s=>if 0≤s then -2 else -s - 1:=by
  unfold nextL
  rw[if_neg hneg,hrg]
  rfl
 rw[hsl]
 generalize g.rules[r]=ru at *
 obtain⟨dt,hdt⟩:∃dt:Nat,x.1.dot=dt:=⟨x.1.dot.toNat,by omega⟩
 have hd4:(ccell x)[2]? = some (.int .i64 (dt:Nat)):=by rw[v8,hdt]
 subst hpr
 have sp3:∀a b c:Value,AM.splice [.int .i64 (Int.ofNat 0),.slice none 0 0,.float .f64 0] 0 [a,b,c]=[a,b,c]:=fun _ _ _=>rfl
 have n1:∀o,hset H2 (n+1+1) o (n+1)=_:=fun o=>(hset_ne _ _ _ (by omega)).trans hb
 have kn:=Kp.new (n+1+1) H2 (.cells [.int .i64 ru.left,.slice pp ru.right.length ru.right.length,.float .f64 ru.weight] 70 true)
 have hR:=hset_at H2 (n+1+1) (.cells [.int .i64 ru.left,.slice pp ru.right.length ru.right.length,.float .f64 ru.weight] 70 true)
 have hpp3:=hpp.mono hw2 kn
 have kk:=k12.trans kn
 by_cases hend:(ru.right.length:Int)≤(dt:Int)
 ·have hend':x.1.dot=(ru.right.length:Int):=by omega
  rw[if_pos hend']
  repeat (first|refine qqm rfl ?_|((first|refine qqr ?_|refine qqt ?_);simp only[SS,qx2,vun,simprocAttr,hb,hG2,gc_2,n1,v3,v5,hd4,hneg',hrr,hrl,hz,d3,d4,hend,sp3,decide_true,hset_at,ff_22]))
  first|refine qqf ?_ ?_|refine qqg ?_ ?_
  ·exact kk.keep
  ·simp only[packed,qv,Nat.reduceEqDiff,↓reduceIte,ff_22]
 ·have hend':¬x.1.dot=(ru.right.length:Int):=by omega
  have hdl:dt<ru.right.length:=by omega
  obtain⟨z4,kz4,c4,t4,o4,hp4,hz4,e4⟩:=hpp3.at hdl
  rw[if_neg hend',hdt,Int.toNat_natCast,List.getElem?_eq_getElem hdl]
  have hsm:=List.getElem_mem hdl
  have hsv:=hri _ hsm
  have hst:=hrT _ hsm
  subst hp4
  generalize ru.right[dt]=s at *
  have hnot:=bnot_i64 (n:=s) (by omega) (by omega)
  by_cases hvar:0≤s
  ·repeat (first|refine qqm rfl ?_|((first|refine qqr ?_|refine qqt ?_);simp only[SS,qx2,vun,simprocAttr,hb,hG2,gc_2,n1,v3,v5,hd4,hneg',hrr,hrl,hz,d3,d4,hend,sp3,decide_true,decide_false,hset_at,hz4,e4,hvar,hdl,ff_22]))
   first|refine qqf ?_ ?_|refine qqg ?_ ?_
   ·exact kk.keep
   ·simp only[packed,qv,Nat.reduceEqDiff,↓reduceIte,ff_22]
    all_goals simp[hvar]
  ·repeat (first|refine qqm rfl ?_|((first|refine qqr ?_|refine qqt ?_);simp only[SS,qx2,vun,simprocAttr,hb,hG2,gc_2,n1,v3,v5,hd4,hneg',hrr,hrl,hz,d3,d4,hend,sp3,decide_true,decide_false,hset_at,hz4,e4,hvar,hnot,hdl,ff_22]))
   first|refine qqf ?_ ?_|refine qqg ?_ ?_
   ·exact kk.keep
   ·simp only[packed,qv,Nat.reduceEqDiff,↓reduceIte,ff_22]
    all_goals simp[hvar]
end Go.Proofs.YtigijncdfkbaoaaGreatDoor
