/- A part of a proof. Its conditions: none. -/
import Derived.Test.YtigijncdfkbaoaaGreatDoorAmYAtNx14
set_option linter.all false
namespace Go.Proofs.YtigijncdfkbaoaaGreatDoor
open Go.AM
set_option maxRecDepth 100000
theorem cmpL_take:∀(k:Nat) {X Y:List (Int × Int)},X.take k=Y.take k→k≤X.length→k≤Y.length→cmpL X Y=cmpL (X.drop k) (Y.drop k)
 | 0,_,_,_,_,_=>rfl
 | k+1,[],_,_,h,_=>absurd h (by simp)
 | k+1,_::_,[],_,_,h=>absurd h (by simp)
 | k+1,p::X,q::Y,h,h1,h2=>by
  rw[List.take_succ_cons,List.take_succ_cons,List.cons.injEq]at h
  obtain⟨rfl,h⟩:=h
  rw[List.drop_succ_cons,List.drop_succ_cons,←cmpL_take k h (by simpa using h1) (by simpa using h2)]
  conv=>lhs;unfold cmpL
  rw[if_pos (cmpS_zero.2 rfl)]
theorem cmpL_at{X Y:List (Int × Int)}{k:Nat}(h:X.take k=Y.take k)(h1:k<X.length)(h2:k<Y.length)(hne:X[k]≠Y[k]):cmpL X Y=cmpS X[k] Y[k]:=by
 rw[cmpL_take k h (by omega) (by omega),List.drop_eq_getElem_cons h1,List.drop_eq_getElem_cons h2]
 unfold cmpL
 rw[if_neg (fun e=>hne (cmpS_zero.1 e))]
theorem cmpL_end{X Y:List (Int × Int)}{k:Nat}(h:X.take k=Y.take k)(h1:k≤X.length)(h2:k≤Y.length)(he:k=X.length∨k=Y.length):cmpL X Y<0↔X.length<Y.length:=by
 rw[cmpL_take k h h1 h2]
 by_cases hx:k=X.length
 ·rw[List.drop_of_length_le (by omega:X.length≤k)]
  by_cases hy:k=Y.length
  ·rw[List.drop_of_length_le (by omega:Y.length≤k)]
   unfold cmpL
   constructor <;> intro h <;> omega
  ·rw[List.drop_eq_getElem_cons (by omega:k<Y.length)]
   unfold cmpL
   constructor <;> intro h <;> omega
 ·have hy:k=Y.length:=by rcases he with h|h;exact absurd h hx;exact h
  rw[List.drop_of_length_le (by omega:Y.length≤k),List.drop_eq_getElem_cons (by omega:k<X.length)]
  unfold cmpL
  constructor <;> intro h <;> omega
theorem cmpC_X(a b:Cfg):cmpC a b=if a.alt=b.alt then cmpL ((a.rule,a.dot)::a.stack) ((b.rule,b.dot)::b.stack) else cmpI a.alt b.alt:=by
 rw[cmpC_eq]
 by_cases h:a.alt=b.alt
 ·rw[if_pos h,if_pos h]
  conv=>rhs;unfold cmpL
  by_cases h2:(a.rule,a.dot)=(b.rule,b.dot)
  ·rw[if_pos h2,if_pos (cmpS_zero.2 h2)]
  ·rw[if_neg h2,if_neg (fun e=>h2 (cmpS_zero.1 e))]
 ·rw[if_neg h,if_neg h]
theorem sp_at:∀(l:List (Int × Int)) (i:Nat) (h:i<l.length),(l.flatMap spC)[i*2]? = some (.int .i64 l[i].1)∧(l.flatMap spC)[i*2+1]? = some (.int .i64 l[i].2)
 | [],_,h=>absurd h (by simp)
 | a::l,0,_=>⟨rfl,rfl⟩
 | a::l,i+1,h=>by
  have ih:=sp_at l i (by simpa using h)
  have e:(a::l).flatMap spC=.int .i64 a.1::.int .i64 a.2::l.flatMap spC:=rfl
  rw[e,show(i+1)*2=i*2+1+1 by omega]
  exact ih
set_option maxHeartbeats 16000000 in
theorem less14_gives{a b:CA}{n:Nat}{H:Heap}(hw:WF n H)(ha:StOK H a)(hb:StOK H b)(hla:a.1.stack.length≤65536)(hlb:b.1.stack.length≤65536) :
  Gives Tryz.prog 46 [.agg (ccell a).toArray,.agg (ccell b).toArray] n H fun v _ _=>v=.bool (decide (cmpC a.1 b.1<0)):=by
 refine Gives.of orders ok46 (Nat.le_of_ble_eq_true rfl) ?_
 have v1:∀s,vcells (.agg (ccell s).toArray)=ccell s:=fun _=>rfl
 have v2:∀s,(ccell s).all one=true:=fun _=>rfl
 have v4:∀s,(ccell s)[3]? = some (.slice s.2 s.1.stack.length s.1.stack.length):=fun _=>rfl
 have v0:∀s,(ccell s)[0]? = some (.int .i64 s.1.alt):=fun _=>rfl
 have v5:∀s,(ccell s).length=4:=fun _=>rfl
 have v8:∀s,((ccell s).drop 1).take 2=[.int .i64 s.1.rule,.int .i64 s.1.dot]:=fun _=>rfl
 repeat refine qqn rfl ?_
 (refine qqr ?_;simp only[SS,qx27,simprocAttr,abox,v1,v2,ff_46])
 have k1:=Kp.new n H (.cells (ccell a) 66 true)
 have hA:=hset_at H n (.cells (ccell a) 66 true)
 generalize hset H n (.cells (ccell a) 66 true)=H1 at *
 have k2:=Kp.new (n+1) H1 (.cells (ccell b) 66 true)
 have hB:=hset_at H1 (n+1) (.cells (ccell b) 66 true)
 generalize hset H1 (n+1) (.cells (ccell b) 66 true)=H2 at *
 have hA2:=(k2.keep n (by omega)).trans hA
 have k12:=k1.trans k2
 have hw2:=k12.wf hw
 have ha2:=ha.mono hw k12
 have hb2:=hb.mono hw k12
 rw[cmpC_X]
 by_cases e1:a.1.alt=b.1.alt
 case neg =>
  rw[if_neg e1]
  have hlt:(cmpI a.1.alt b.1.alt<0)=(a.1.alt<b.1.alt):=propext (by unfold cmpI;split <;> (try split) <;> constructor <;> intro h <;> omega)
  repeat (first|refine qqm rfl ?_|((first|refine qqr ?_|refine qqt ?_);simp only[SS,qx27,simprocAttr,hA2,hB,v0,v4,v5,v8,e1,decide_false,Bool.not_false,ff_46]))
  first|refine qqf ?_ ?_|refine qqg ?_ ?_
  ·exact k12.keep
  ·simp only[packed,qv,Nat.reduceEqDiff,↓reduceIte,hlt,ff_46]
 rw[if_pos e1]
 repeat refine qqn rfl ?_
 (refine qqr ?_;simp only[SS,qx27,simprocAttr,hA2,hB,v0,v4,v5,v8,e1,decide_true,Bool.not_true,ff_46])
 repeat refine qqn rfl ?_
 refine qqm rfl ?_
 apply WK.skipSeq;apply WK.seq
 have hw0:∀r d:Int,(AM.splice [Value.int .i64 (Int.ofNat 0),.int .i64 (Int.ofNat 0)] 0 [.int .i64 r,.int .i64 d])=[.int .i64 r,.int .i64 d]:=fun _ _=>rfl
 have hw1:∀r d:Int,[Value.int .i64 r,.int .i64 d].take 2=[.int .i64 r,.int .i64 d]:=fun _ _=>rfl
 have hxl:∀(c:Cfg) , (((c.rule,c.dot)::c.stack).flatMap spC)=[Value.int .i64 c.rule,.int .i64 c.dot]++c.stack.flatMap spC:=fun _=>rfl
 refine WK.cut (fun s=>∃y,Kp (n+1+1) H2 s.n s.H∧s.f 2=.pointer (some ⟨n,0,none⟩)∧s.f 3=.pointer (some ⟨n+1,0,none⟩)∧s.f 5=.slice (some ⟨y,0,none⟩) (a.1.stack.length+1) (a.1.stack.length+1)∧s.H y=.cells (((a.1.rule,a.1.dot)::a.1.stack).flatMap spC) 63 true∧n+1+1≤y∧y<s.n) ?_ ?_
 ·have q1:∀o,hset H2 (n+1+1) o n=_:=fun o=>(hset_ne _ _ _ (by omega)).trans hA2
  have bl:1+a.1.stack.length≤bigN:=by unfold bigN;omega
  rcases ha2 with⟨h1,h2⟩|⟨x,k,cs,ty,own,h1,h2,h3,h4⟩
  ·have hl0:a.1.stack.length=0:=by rw[h2];rfl
   rw[hxl,h2]
   (refine qqr ?_;simp only[SS,qx27,simprocAttr,hA2,q1,v4,v5,v8,h1,hl0,hset_at,hw1,hw0,ff_46])
   exact WK.skipNil ⟨rfl,n+1+1+1,((Kp.new (n+1+1) H2 _).set (x:=n+1+1) .dead (by omega) (by omega)).trans (Kp.new (n+1+1+1) _ _),rfl,rfl,rfl,hset_at _ _ _,by omega,Nat.lt_succ_self _⟩
  ·have hxn:=live_lt hw2 (live_of h2)
   have hcx:[x].contains (n+1+1)=false:=by simp;omega
   have q2:∀o,hset H2 (n+1+1) o x=_:=fun o=>(hset_ne _ _ _ (by omega)).trans h2
   rw[hxl]
   (refine qqr ?_;simp only[SS,qx27,simprocAttr,hA2,q1,q2,v4,v5,v8,h1,h3,h4,hset_at,bl,hcx,hw1,hw0,ff_46])
   exact WK.skipNil ⟨rfl,n+1+1+1,(Kp.new (n+1+1) H2 .dead).trans (Kp.new (n+1+1+1) _ _),rfl,rfl,by rw[Nat.add_comm a.1.stack.length 1];rfl,hset_at _ _ _,by omega,Nat.lt_succ_self _⟩
 rintro⟨f,n3,H3⟩ ⟨y,k3,f2,f3,f5,hy,hy1,hy2⟩
 simp only at k3 f2 f3 f5 hy hy2
 have hw3:=k3.wf hw2
 have hle3:=k3.le
 have hA3:=(k3.keep n (by omega)).trans hA2
 have hB3:=(k3.keep (n+1) (by omega)).trans hB
 have hb3:=hb2.mono hw2 k3
 apply WK.skipSeq;apply WK.seq
 refine WK.cut (fun s=>∃z,Kp n3 H3 s.n s.H∧s.f 2=.pointer (some ⟨n,0,none⟩)∧s.f 3=.pointer (some ⟨n+1,0,none⟩)∧s.f 5=.slice (some ⟨y,0,none⟩) (a.1.stack.length+1) (a.1.stack.length+1)∧s.f 6=.slice (some ⟨z,0,none⟩) (b.1.stack.length+1) (b.1.stack.length+1)∧s.H z=.cells (((b.1.rule,b.1.dot)::b.1.stack).flatMap spC) 63 true) ?_ ?_
 ·have q1:∀o,hset H3 n3 o (n+1)=_:=fun o=>(hset_ne _ _ _ (by omega)).trans hB3
  have bl:1+b.1.stack.length≤bigN:=by unfold bigN;omega
  rcases hb3 with⟨h1,h2⟩|⟨x,k,cs,ty,own,h1,h2,h3,h4⟩
  ·have hl0:b.1.stack.length=0:=by rw[h2];rfl
   rw[hxl,h2]
   (refine qqr ?_;simp only[SS,qx27,simprocAttr,f3,hB3,q1,v4,v5,v8,h1,hl0,hset_at,hw1,hw0,ff_46])
   exact WK.skipNil ⟨rfl,n3+1,((Kp.new n3 H3 _).set (x:=n3) .dead (by omega) (by omega)).trans (Kp.new (n3+1) _ _),f2,f3,f5,rfl,hset_at _ _ _⟩
  ·have hxn:=live_lt hw3 (live_of h2)
   have hcx:[x].contains n3=false:=by simp;omega
   have q2:∀o,hset H3 n3 o x=_:=fun o=>(hset_ne _ _ _ (by omega)).trans h2
   rw[hxl]
   (refine qqr ?_;simp only[SS,qx27,simprocAttr,f3,hB3,q1,q2,v4,v5,v8,h1,h3,h4,hset_at,bl,hcx,hw1,hw0,ff_46])
   exact WK.skipNil ⟨rfl,n3+1,(Kp.new n3 H3 .dead).trans (Kp.new (n3+1) _ _),f2,f3,f5,by rw[Nat.add_comm b.1.stack.length 1];rfl,hset_at _ _ _⟩
 rintro⟨f,n4,H4⟩ ⟨z,k4,f2,f3,f5,f6,hz⟩
 simp only at k4 f2 f3 f5 f6 hz
 have hy4:=(k4.keep y hy2).trans hy
 have k04:=k12.trans (k3.trans k4)
 have hXl:((a.1.rule,a.1.dot)::a.1.stack).length=a.1.stack.length+1:=rfl
 have hYl:((b.1.rule,b.1.dot)::b.1.stack).length=b.1.stack.length+1:=rfl
 rw[←hXl]at f5
 rw[←hYl]at f6
 have hX65:((a.1.rule,a.1.dot)::a.1.stack).length≤65537:=by omega
 have hY65:((b.1.rule,b.1.dot)::b.1.stack).length≤65537:=by omega
 clear hXl hYl
 generalize (a.1.rule,a.1.dot)::a.1.stack=X at *
 generalize (b.1.rule,b.1.dot)::b.1.stack=Y at *
 have fX:(X.flatMap spC).length=X.length*2:=fm_len spC_len X
 have fY:(Y.flatMap spC).length=Y.length*2:=fm_len spC_len Y
 repeat (first|refine qqm rfl ?_|((first|refine qqr ?_|refine qqt ?_);simp only[SS,qx27,simprocAttr,ff_46]))
 refine WK.loop (fun kk s=>∃i:Nat,s.n=n4∧s.H=H4∧s.f 5=.slice (some ⟨y,0,none⟩) X.length X.length∧s.f 6=.slice (some ⟨z,0,none⟩) Y.length Y.length∧s.f 7=.int .i64 (i:Nat)∧i≤X.length∧i≤Y.length∧X.take i=Y.take i∧kk=X.length - i) X.length ?_ ?_
 ·exact⟨0,rfl,rfl,f5,f6,rfl,Nat.zero_le _,Nat.zero_le _,rfl,rfl⟩
 clear f2 f3 f5 f6
 rintro kk ⟨f,m,H5⟩ ⟨i,e1,e2,f5,f6,f7,hiX,hiY,htk,rfl⟩ ih
 simp only at e1 e2 f5 f6 f7 ih
 subst e1 e2
 by_cases hc:i<X.length∧i<Y.length
 ·obtain⟨hlX,hlY⟩:=hc
  have hiw:IntKind.i64.wrap ((i:Int)+1)=((i+1:Nat):Int):=by rw[wrap_in (by omega) (by omega)];rfl
  obtain⟨x1,x2⟩:=sp_at X i hlX
  obtain⟨y1,y2⟩:=sp_at Y i hlY
  by_cases h1:X[i].1=Y[i].1
  ·by_cases h2:X[i].2=Y[i].2
   ·repeat (first|refine qqm rfl ?_|((first|refine qqr ?_|refine qqt ?_);simp only[SS,qx27,simprocAttr,f5,f6,f7,hlX,hlY,hy4,hz,fX,fY,x1,x2,y1,y2,h1,h2,decide_true,Bool.not_true,hiw,Nat.zero_add,ff_46]))
    refine ih (X.length - (i+1)) (by omega) _ ⟨i+1,rfl,rfl,f5,f6,rfl,hlX,hlY,?_,rfl⟩
    rw[List.take_add_one,List.take_add_one,htk,List.getElem?_eq_getElem hlX,List.getElem?_eq_getElem hlY,Prod.ext h1 h2]
   ·have hne:X[i]≠Y[i]:=fun h=>h2 (by rw[h])
    have hlt:(cmpL X Y<0)=(X[i].2<Y[i].2):=propext (by rw[cmpL_at htk hlX hlY hne,cmpS_eq,if_pos h1];unfold cmpI;split <;> (try split) <;> constructor <;> intro h <;> omega)
    repeat (first|refine qqm rfl ?_|((first|refine qqr ?_|refine qqt ?_);simp only[SS,qx27,simprocAttr,f5,f6,f7,hlX,hlY,hy4,hz,fX,fY,x1,x2,y1,y2,h1,h2,decide_true,decide_false,Bool.not_true,Bool.not_false,Nat.zero_add,ff_46]))
    first|refine qqf ?_ ?_|refine qqg ?_ ?_
    ·exact k04.keep
    ·simp only[packed,qv,Nat.reduceEqDiff,↓reduceIte,hlt,ff_46]
  ·have hne:X[i]≠Y[i]:=fun h=>h1 (by rw[h])
   have hlt:(cmpL X Y<0)=(X[i].1<Y[i].1):=propext (by rw[cmpL_at htk hlX hlY hne,cmpS_eq,if_neg h1];unfold cmpI;split <;> (try split) <;> constructor <;> intro h <;> omega)
   repeat (first|refine qqm rfl ?_|((first|refine qqr ?_|refine qqt ?_);simp only[SS,qx27,simprocAttr,f5,f6,f7,hlX,hlY,hy4,hz,fX,fY,x1,x2,y1,y2,h1,decide_false,Bool.not_false,Nat.zero_add,ff_46]))
   first|refine qqf ?_ ?_|refine qqg ?_ ?_
   ·exact k04.keep
   ·simp only[packed,qv,Nat.reduceEqDiff,↓reduceIte,hlt,ff_46]
 ·have hend:=cmpL_end htk hiX hiY (by omega)
  have hlt:(cmpL X Y<0)=(X.length<Y.length):=propext hend
  have hcl:((X.length:Int)<(Y.length:Int))=(X.length<Y.length):=propext ⟨fun h=>by omega,fun h=>by omega⟩
  by_cases hlX:i<X.length
  ·have hlY:¬i<Y.length:=fun h=>hc ⟨hlX,h⟩
   repeat (first|refine qqm rfl ?_|((first|refine qqr ?_|refine qqt ?_);simp only[SS,qx27,simprocAttr,f5,f6,f7,hlX,hlY,ff_46]))
   first|refine qqf ?_ ?_|refine qqg ?_ ?_
   ·exact k04.keep
   ·simp only[packed,qv,Nat.reduceEqDiff,↓reduceIte,hlt,hcl,ff_46]
  ·repeat (first|refine qqm rfl ?_|((first|refine qqr ?_|refine qqt ?_);simp only[SS,qx27,simprocAttr,f5,f6,f7,hlX,ff_46]))
   first|refine qqf ?_ ?_|refine qqg ?_ ?_
   ·exact k04.keep
   ·simp only[packed,qv,Nat.reduceEqDiff,↓reduceIte,hlt,hcl,ff_46]
end Go.Proofs.YtigijncdfkbaoaaGreatDoor
