/- A part of a proof. Its conditions: none. -/
import Derived.Test.YtjlgpanihjnaeaaGreatDoorAmXFacts
import Derived.Test.YtjlgpanihjnaeaaGreatDoorAmC
import Derived.Test.YtjlgpanihjnaeaaGreatDoorAmD
import Derived.Test.YtjlgpanihjnaeaaGreatDoorAmXDfKey
import Derived.Test.YtjlgpanihjnaeaaGreatDoorAmXAtClo
import Derived.Test.YtjlgpanihjnaeaaGreatDoorAmXAtStart
import Derived.Test.YtjlgpanihjnaeaaGreatDoorAmXAtClose
set_option linter.all false
namespace Go.Proofs.YtjlgpanihjnaeaaGreatDoor
open Go.AM
set_option maxRecDepth 100000
theorem wrap_up{i m:Nat}(h:i<m)(hm:m≤maxL):IntKind.wrap .i64 ((i:Int)+1)=((i+1:Nat):Int):=by
 unfold maxL at hm
 rw[wrap_in (by omega) (by omega)];rfl
set_option maxHeartbeats 2000000 in
theorem mright_gives{v:Value}{N:List (List Int)}{R:List Int}{n:Nat}{H:Heap}(hw:WF n H)(hd:RD H v N R)(ws:WA N R) :
  Gives Tryz.prog 7 [v] n H fun v _ _=>v=.bool (Mini.rightB N R):=by
 obtain⟨a,b,rfl,hN,hR⟩:=hd
 refine Gives.of orders ok7 (Nat.le_of_ble_eq_true rfl) ?_
 have hk:=Kp.new n H (.cells (acells a b N R) 31 true)
 replace hN:=hN.mono hw hk
 replace hR:=hR.mono hw hk
 have hb:=hset_at H n (.cells (acells a b N R) 31 true)
 repeat refine qqn rfl ?_
 (refine qqr ?_;simp only[SS,qx0,simprocAttr,abox,abox_cells,abox_one,ff_7])
 repeat refine qqn rfl ?_
 generalize hset H n (.cells (acells a b N R) 31 true)=H1 at *
 have wn:=ws.n
 have wr:=ws.r
 by_cases h1:N.length=0
 ·have h1':((N.length:Int)=0)=True:=by simp only[eq_iff_iff,iff_true];omega
  repeat (first|refine qqm rfl ?_|((first|refine qqr ?_|refine qqt ?_);simp only[SS,qx0,simprocAttr,hb,h1',ac_0,ac_1,ff_7]))
  first|refine qqf ?_ ?_|refine qqg ?_ ?_
  ·exact hk.keep
  ·simp only[packed,qv,Nat.reduceEqDiff,↓reduceIte,ff_7]
   simp[Mini.rightB,h1]
 have h1':((N.length:Int)=0)=False:=by simp only[eq_iff_iff,iff_false];omega
 by_cases h2:N.length=R.length
 case neg =>
  have h2':((N.length:Int)=(R.length:Int))=False:=by simp only[eq_iff_iff,iff_false];omega
  repeat (first|refine qqm rfl ?_|((first|refine qqr ?_|refine qqt ?_);simp only[SS,qx0,simprocAttr,hb,h1',h2',ac_0,ac_1,ff_7]))
  first|refine qqf ?_ ?_|refine qqg ?_ ?_
  ·exact hk.keep
  ·simp only[packed,qv,Nat.reduceEqDiff,↓reduceIte,ff_7]
   simp[Mini.rightB,h2]
 have h2':((N.length:Int)=(R.length:Int))=True:=by simp only[eq_iff_iff,iff_true];omega
 obtain⟨x,k,cs,ty,own,rfl,hx,hr⟩:=hN.base (by intro e;rw[e]at h1;exact h1 rfl)
 have h0l:0<N.length:=by omega
 have h0i:((0:Int)<(N.length:Int))=True:=by simp only[eq_iff_iff,iff_true];omega
 obtain⟨p0,c0,hp0⟩:=hr 0 h0l
 rw[Nat.add_zero]at c0
 have hg0:N.getD 0 []=N[0]:=Mini.getD_at [] h0l
 by_cases h3:N[0].length=0
 ·have h3':((N[0].length:Int)=0)=True:=by simp only[eq_iff_iff,iff_true];omega
  repeat (first|refine qqm rfl ?_|((first|refine qqr ?_|refine qqt ?_);simp only[SS,qx0,simprocAttr,hb,h1',h2',h3',h0i,hx,c0,ac_0,ac_1,ff_7]))
  first|refine qqf ?_ ?_|refine qqg ?_ ?_
  ·exact hk.keep
  ·simp only[packed,qv,Nat.reduceEqDiff,↓reduceIte,ff_7]
   unfold Mini.rightB
   rw[hg0]
   simp[h3]
 have h3':((N[0].length:Int)=0)=False:=by simp only[eq_iff_iff,iff_false];omega
 repeat (first|refine qqm rfl ?_|((first|refine qqr ?_|refine qqt ?_);simp only[SS,qx0,simprocAttr,hb,h1',h2',h3',h0i,hx,c0,ac_0,ac_1,ff_7]))
 refine WK.loop (fun kk s=>∃i:Nat,i≤N.length∧s.n=n+1∧s.H=H1∧s.f 1=.pointer (some ⟨n,0,none⟩)∧s.f 29=.slice (some ⟨x,k,none⟩) N.length N.length∧s.f 30=.int .i64 (N.length:Int)∧s.f 31=.int .i64 (i:Int) ∧
  kk=N.length - i∧∀s,s<i→Mini.okR N.length (N.getD 0 []).length (Mini.at1 R s) (N.getD s [])=true) N.length ?_ ?_
 ·exact⟨0,Nat.zero_le _,rfl,rfl,rfl,rfl,rfl,rfl,rfl,fun s hs=>absurd hs (Nat.not_lt_zero _)⟩
 rintro kk ⟨f,n',H'⟩ ⟨i,hi,rfl,rfl,f1,f29,f30,f31,rfl,hall⟩ ih
 simp only at f1 f29 f30 f31 ih hx hb hR hr
 by_cases hil:i<N.length
 ·have hil':((i:Int)<(N.length:Int))=True:=by simp only[eq_iff_iff,iff_true];omega
  have h0n:(0:Int)≤(i:Int):=Int.natCast_nonneg i
  obtain⟨p,ci,hp⟩:=hr i hil
  have hgi:N.getD i []=N[i]:=Mini.getD_at [] hil
  have hil2:i<R.length:=by omega
  obtain⟨y,l,ds,ty2,own2,rfl,hy,ei⟩:=hR.at hil2
  have hri:Mini.at1 R i=R[i]:=Mini.at1_at hil2
  have hilr:((i:Int)<(R.length:Int))=True:=by simp only[eq_iff_iff,iff_true];omega
  by_cases g1:N[i].length=N[0].length
  case neg =>
   have g1':((N[i].length:Int)=(N[0].length:Int))=False:=by simp only[eq_iff_iff,iff_false];omega
   repeat (first|refine qqm rfl ?_|((first|refine qqr ?_|refine qqt ?_);simp only[SS,qx0,simprocAttr,f1,f29,f30,f31,hil',hil,h0n,hx,ci,hb,c0,h0i,g1',ac_0,ac_1,Int.toNat_natCast,ff_7]))
   first|refine qqf ?_ ?_|refine qqg ?_ ?_
   ·exact hk.keep
   ·simp only[packed,qv,Nat.reduceEqDiff,↓reduceIte,ff_7]
    rw[Mini.right_no hil]
    rw[hgi,hg0]
    simp[Mini.okR,g1]
  have g1':((N[i].length:Int)=(N[0].length:Int))=True:=by simp only[eq_iff_iff,iff_true];omega
  by_cases g2:R[i] < -1
  ·repeat (first|refine qqm rfl ?_|((first|refine qqr ?_|refine qqt ?_);simp only[SS,qx0,simprocAttr,f1,f29,f30,f31,hil',hil,h0n,hx,ci,hb,c0,h0i,g1',g2,ac_0,ac_1,hilr,hil2,hy,ei,Int.toNat_natCast,ff_7]))
   first|refine qqf ?_ ?_|refine qqg ?_ ?_
   ·exact hk.keep
   ·simp only[packed,qv,Nat.reduceEqDiff,↓reduceIte,ff_7]
    rw[Mini.right_no hil]
    rw[hgi,hg0,hri]
    have:¬(-1≤R[i]):=by omega
    simp[Mini.okR,this]
  have wi:=ws.row _ (List.getElem_mem hil)
  have hrow:N[i].length=N[0].length:=g1
  generalize hl:N[i]=L at *
  repeat (first|refine qqm rfl ?_|((first|refine qqr ?_|refine qqt ?_);simp only[SS,qx0,simprocAttr,f1,f29,f30,f31,hil',hil,h0n,hx,ci,hb,c0,h0i,g1',g2,ac_0,ac_1,hilr,hil2,hy,ei,Int.toNat_natCast,ff_7]))
  refine WK.loop (fun kk s=>∃j:Nat,j≤L.length∧s.n=n+1∧s.H=H'∧s.f 1=.pointer (some ⟨n,0,none⟩)∧s.f 29=.slice (some ⟨x,k,none⟩) N.length N.length∧s.f 30=.int .i64 (N.length:Int)∧s.f 31=.int .i64 (i:Int) ∧
   s.f 3=.int .i64 (i:Int)∧s.f 52=.slice p L.length L.length∧s.f 53=.int .i64 (L.length:Int)∧s.f 54=.int .i64 (j:Int)∧kk=L.length - j∧∀t (ht:t<L.length),t<j→Mini.okT N.length R[i] L[t]=true) L.length ?_ ?_
  ·exact⟨0,Nat.zero_le _,rfl,rfl,f1,f29,f30,f31,rfl,rfl,rfl,rfl,rfl,fun t ht h=>absurd h (Nat.not_lt_zero _)⟩
  rintro kk ⟨f,n',H''⟩ ⟨j,hj,rfl,rfl,f1,f29,f30,f31,f3,f52,f53,f54,rfl,hal⟩ ih2
  simp only at f1 f29 f30 f31 f3 f52 f53 f54 ih ih2 hx hb hR hr hy hp
  by_cases hjl:j<L.length
  ·have hjl':((j:Int)<(L.length:Int))=True:=by simp only[eq_iff_iff,iff_true];omega
   have h0j:(0:Int)≤(j:Int):=Int.natCast_nonneg j
   obtain⟨z,m,es,ty3,own3,rfl,hz,ej⟩:=hp.at hjl
   have hok:Mini.okT N.length R[i] L[j]=(decide (-1≤L[j]) && decide (L[j]<N.length) && !(decide (0≤L[j]) && decide (0≤R[i]))):=rfl
   have no:Mini.okT N.length R[i] L[j]=false→Mini.rightB N R=false:=fun h=>by
    refine Mini.right_no hil ?_
    rw[hgi,hri]
    exact Mini.okR_no hjl h
   have back:Mini.okT N.length R[i] L[j]=true→∀t (ht:t<L.length),t<j+1→Mini.okT N.length R[i] L[t]=true:=fun h t ht htj=>by
    by_cases e:t=j
    ·subst e;exact h
    ·exact hal t ht (by omega)
   generalize L[j]=X at *
   by_cases c1:X < -1
   ·repeat (first|refine qqm rfl ?_|((first|refine qqr ?_|refine qqt ?_);simp only[SS,qx0,simprocAttr,f1,f29,f30,f31,f3,f52,f53,f54,hjl',hjl,h0j,hz,ej,hb,c1,ac_0,ac_1,Int.toNat_natCast,ff_7]))
    first|refine qqf ?_ ?_|refine qqg ?_ ?_
    ·exact hk.keep
    ·simp only[packed,qv,Nat.reduceEqDiff,↓reduceIte,ff_7]
     rw[no (by rw[hok,decide_eq_false (show ¬ -1≤X by omega)];rfl)]
   by_cases c2:(N.length:Int)≤X
   ·repeat (first|refine qqm rfl ?_|((first|refine qqr ?_|refine qqt ?_);simp only[SS,qx0,simprocAttr,f1,f29,f30,f31,f3,f52,f53,f54,hjl',hjl,h0j,hz,ej,hb,c1,c2,ac_0,ac_1,Int.toNat_natCast,ff_7]))
    first|refine qqf ?_ ?_|refine qqg ?_ ?_
    ·exact hk.keep
    ·simp only[packed,qv,Nat.reduceEqDiff,↓reduceIte,ff_7]
     rw[no (by rw[hok,decide_eq_false (show ¬X<N.length by omega)];simp)]
   have x1 : -1≤X:=by omega
   have x2:X<N.length:=by omega
   by_cases c3:0≤X
   ·by_cases c4:0≤R[i]
    ·repeat (first|refine qqm rfl ?_|((first|refine qqr ?_|refine qqt ?_);simp only[SS,qx0,simprocAttr,f1,f29,f30,f31,f3,f52,f53,f54,hjl',hjl,h0j,hz,ej,hb,c1,c2,c3,c4,hilr,hil2,hil',hil,h0n,hy,ei,ac_0,ac_1,Int.toNat_natCast,ff_7]))
     first|refine qqf ?_ ?_|refine qqg ?_ ?_
     ·exact hk.keep
     ·simp only[packed,qv,Nat.reduceEqDiff,↓reduceIte,ff_7]
      rw[no (by rw[hok,decide_eq_true c3,decide_eq_true c4];simp)]
    ·repeat (first|refine qqm rfl ?_|((first|refine qqr ?_|refine qqt ?_);simp only[SS,qx0,simprocAttr,f1,f29,f30,f31,f3,f52,f53,f54,hjl',hjl,h0j,hz,ej,hb,c1,c2,c3,c4,hilr,hil2,hil',hil,h0n,hy,ei,ac_0,ac_1,Int.toNat_natCast,ff_7]))
     refine ih2 (L.length - (j+1)) (by omega) _ ⟨j+1,hjl,rfl,rfl,f1,f29,f30,f31,f3,f52,f53,?_,rfl,back (by rw[hok,decide_eq_true x1,decide_eq_true x2,decide_eq_false c4];simp)⟩
     simp only[packed,qv,Nat.reduceEqDiff,↓reduceIte,wrap_up hjl wi.1,ff_7]
   ·repeat (first|refine qqm rfl ?_|((first|refine qqr ?_|refine qqt ?_);simp only[SS,qx0,simprocAttr,f1,f29,f30,f31,f3,f52,f53,f54,hjl',hjl,h0j,hz,ej,hb,c1,c2,c3,hilr,hil2,hil',hil,h0n,hy,ei,ac_0,ac_1,Int.toNat_natCast,ff_7]))
    refine ih2 (L.length - (j+1)) (by omega) _ ⟨j+1,hjl,rfl,rfl,f1,f29,f30,f31,f3,f52,f53,?_,rfl,back (by rw[hok,decide_eq_true x1,decide_eq_true x2,decide_eq_false c3];simp)⟩
    simp only[packed,qv,Nat.reduceEqDiff,↓reduceIte,wrap_up hjl wi.1,ff_7]
  ·have hjl':((j:Int)<(L.length:Int))=False:=by simp only[eq_iff_iff,iff_false];omega
   repeat (first|refine qqm rfl ?_|((first|refine qqr ?_|refine qqt ?_);simp only[SS,qx0,simprocAttr,f1,f29,f30,f31,f3,f52,f53,f54,hjl',Int.toNat_natCast,ff_7]))
   refine ih (N.length - (i+1)) (by omega) _ ⟨i+1,hil,rfl,rfl,f1,f29,f30,?_,rfl,?_⟩
   ·simp only[packed,qv,Nat.reduceEqDiff,↓reduceIte,wrap_up hil wn,ff_7]
   ·intro s hs
    by_cases e:s=i
    ·subst e
     rw[hgi,hri,hg0]
     unfold Mini.okR
     simp only[Bool.and_eq_true,decide_eq_true_eq,List.all_eq_true]
     refine⟨⟨hrow,by omega⟩,fun y hy=>?_⟩
     obtain⟨t,ht,rfl⟩:=List.getElem_of_mem hy
     exact hal t ht (by omega)
    ·exact hall s (by omega)
 ·have hil':((i:Int)<(N.length:Int))=False:=by simp only[eq_iff_iff,iff_false];omega
  repeat (first|refine qqm rfl ?_|((first|refine qqr ?_|refine qqt ?_);simp only[SS,qx0,simprocAttr,f1,f29,f30,f31,hil',ff_7]))
  first|refine qqf ?_ ?_|refine qqg ?_ ?_
  ·exact hk.keep
  ·simp only[packed,qv,Nat.reduceEqDiff,↓reduceIte,ff_7]
   have:Mini.rightB N R=true:=by
    unfold Mini.rightB
    simp only[Bool.and_eq_true,decide_eq_true_eq,List.all_eq_true,List.mem_range,hg0]
    refine⟨⟨⟨h1,h2⟩,h3⟩,fun s hs=>?_⟩
    rw[←hg0]
    exact hall s (by omega)
   rw[this]
end Go.Proofs.YtjlgpanihjnaeaaGreatDoor

namespace Go.Proofs.YtjlgpanihjnaeaaGreatDoor
open Go.AM
set_option maxRecDepth 100000
def Sep(b:UInt8):Prop:=b=59∨b=32∨b=46
theorem split_eq{P:UInt8→Prop}:∀{A A' B B':List UInt8},(∀b∈A,¬P b)→(∀b∈A',¬P b)→(∀b l,B=b::l→P b)→(∀b l,B'=b::l→P b)→A++B=A'++B'→A=A'∧B=B'
 | [],[],_,_,_,_,_,_,h=>⟨rfl,h⟩
 | [],a::A',B,B',_,h2,h3,_,h=>by
  cases B with
  | nil=>simp at h
  | cons b l =>
   simp at h
   exact absurd (h.1 ▸ h3 b l rfl) (h2 a (by simp))
 | a::A,[],B,B',h1,_,_,h4,h=>by
  cases B' with
  | nil=>simp at h
  | cons b l =>
   simp at h
   exact absurd (h.1 ▸ h4 b l rfl) (h1 a (by simp))
 | a::A,a'::A',B,B',h1,h2,h3,h4,h=>by
  simp at h
  obtain⟨e,h⟩:=h
  obtain⟨e1,e2⟩:=split_eq (P:=P) (A:=A) (A':=A') (fun b hb=>h1 b (by simp[hb])) (fun b hb=>h2 b (by simp[hb])) h3 h4 h
  exact⟨by rw[e,e1],e2⟩
theorem dN_dg(n:Nat):∀b∈dN n,48≤b.toNat∧b.toNat≤57:=by
 induction n using Nat.strongRecOn with
 | _ n ih =>
  intro b hb
  by_cases h:n<10
  ·rw[dN_lt h,List.mem_singleton]at hb
   subst hb
   rw[UInt8.toNat_ofNat']
   omega
  ·rw[dN_ge h]at hb
   rcases List.mem_append.1 hb with h1|h1
   ·exact ih _ (by omega) b h1
   ·rw[List.mem_singleton]at h1
    subst h1
    rw[UInt8.toNat_ofNat']
    omega
theorem dI_nsep(z:Int):∀b∈dI z,¬Sep b:=by
 intro b hb hs
 have h1:b.toNat=45∨(48≤b.toNat∧b.toNat≤57):=by
  unfold dI at hb
  split at hb
  ·rcases List.mem_cons.1 hb with h|h
   ·left;rw[h];rfl
   ·right;exact dN_dg _ b h
  ·right;exact dN_dg _ b hb
 have h2:b.toNat=59∨b.toNat=32∨b.toNat=46:=by
  rcases hs with h|h|h <;> rw[h] <;> decide
 omega
def Cut(B:List UInt8):Prop:=∀b l,B=b::l→Sep b
theorem num_eq{a a':Int}{B B':List UInt8}(h1:Cut B)(h2:Cut B')(h:dI a++B=dI a'++B'):a=a'∧B=B':=by
 obtain⟨e1,e2⟩:=split_eq (P:=Sep) (dI_nsep a) (dI_nsep a') h1 h2 h
 exact⟨dI_inj e1,e2⟩
def Cut59(B:List UInt8):Prop:=B=[]∨∃l,B=59::l
theorem Cut59.cut{B:List UInt8}(h:Cut59 B):Cut B:=by
 intro b l e
 rcases h with h|⟨l',h⟩
 ·rw[h]at e;cases e
 ·rw[h]at e;cases e;exact .inl rfl
theorem spots_cut{l:List (Int × Int)}{T:List UInt8}(h:Cut59 T):Cut (l.flatMap dSp++T):=by
 cases l with
 | nil=>simpa using h.cut
 | cons s l =>
  intro b l' e
  simp[dSp]at e
  exact .inr (.inl e.1.symm)
theorem spots_eq:∀{l l':List (Int × Int)} {T T':List UInt8},Cut59 T→Cut59 T'→l.flatMap dSp++T=l'.flatMap dSp++T'→l=l'∧T=T'
 | [],[],_,_,_,_,h=>⟨rfl,by simpa using h⟩
 | [],s::l',T,T',h1,_,h=>by
  rcases h1 with h1|⟨m,h1⟩ <;> rw[h1]at h <;> simp[dSp]at h
 | s::l,[],T,T',_,h2,h=>by
  rcases h2 with h2|⟨m,h2⟩ <;> rw[h2]at h <;> simp[dSp]at h
 | s::l,s'::l',T,T',h1,h2,h=>by
  have e:32::(dI s.1++(46::(dI s.2++(l.flatMap dSp++T))))=32::(dI s'.1++(46::(dI s'.2++(l'.flatMap dSp++T')))):=by
   simpa [dSp,List.append_assoc] using h
  have e:=List.tail_eq_of_cons_eq e
  obtain⟨a1,e⟩:=num_eq (fun b l e=>by cases e;exact .inr (.inr rfl)) (fun b l e=>by cases e;exact .inr (.inr rfl)) e
  have e:=List.tail_eq_of_cons_eq e
  obtain⟨a2,e⟩:=num_eq (spots_cut h1) (spots_cut h2) e
  obtain⟨a3,a4⟩:=spots_eq h1 h2 e
  exact⟨by rw[a3,show s=s' from Prod.ext a1 a2],a4⟩
theorem cfs_cut(L:List Cfg):Cut59 (L.flatMap dCf):=by
 cases L with
 | nil=>exact .inl rfl
 | cons c L=>exact .inr ⟨_,by simp[dCf];rfl⟩
theorem cfs_eq:∀{L L':List Cfg},L.flatMap dCf=L'.flatMap dCf→L=L'
 | [],[],_=>rfl
 | [],c::L',h=>by simp[dCf]at h
 | c::L,[],h=>by simp[dCf]at h
 | c::L,c'::L',h=>by
  have e:59::(dI c.alt++(((c.rule,c.dot)::c.stack).flatMap dSp++L.flatMap dCf))=59::(dI c'.alt++(((c'.rule,c'.dot)::c'.stack).flatMap dSp++L'.flatMap dCf)):=by
   simpa [dCf,List.append_assoc] using h
  have e:=List.tail_eq_of_cons_eq e
  obtain⟨a1,e⟩:=num_eq (spots_cut (cfs_cut L)) (spots_cut (cfs_cut L')) e
  obtain⟨a2,e⟩:=spots_eq (cfs_cut L) (cfs_cut L') e
  rw[cfs_eq e]
  obtain⟨a3,a4⟩:=List.cons.inj a2
  obtain⟨a5,a6⟩:=Prod.mk.inj a3
  have:c=c':=by
   obtain⟨q1,q2,q3,q4⟩:=c
   obtain⟨r1,r2,r3,r4⟩:=c'
   simp only at a1 a4 a5 a6
   rw[a1,a4,a5,a6]
  rw[this]
theorem dK_inj{r r':Int}{L L':List Cfg}(h:dK r L=dK r' L'):r=r'∧L=L':=by
 obtain⟨a1,a2⟩:=num_eq (cfs_cut L).cut (cfs_cut L').cut h
 exact⟨a1,cfs_eq a2⟩
end Go.Proofs.YtjlgpanihjnaeaaGreatDoor

namespace Go.Proofs.YtjlgpanihjnaeaaGreatDoor
open Go.AM
set_option maxRecDepth 100000
theorem startL_map{g:Gram}(ok:RightOK g)(v:Int):(startL g v).map (·.1)=(ruleIx g v).map fun r:Nat=>(⟨(r:Nat),(r:Nat),0,[]⟩:Cfg):=by
 unfold startL
 split
 ·rw[List.map_map];rfl
 ·rename_i h
  have:ruleIx g v=[]:=by
   unfold ruleIx
   refine List.filter_eq_nil_iff.2 fun i hi=>?_
   rw[List.mem_range]at hi
   rw[List.getElem?_eq_getElem hi]
   have h0:=ok.inG.left0 _ (List.getElem_mem hi)
   have h1:=ok.inG.left1 _ (List.getElem_mem hi)
   simp only[Option.map_some,Option.some.injEq,decide_eq_true_eq]
   rintro rfl
   exact h ⟨h0,h1⟩
  rw[this];rfl
def mvC(c:Cfg):Cfg:=⟨c.alt,c.rule,c.dot+1,c.stack⟩
def moveL(g:Gram)(t:Int)(l:List Cfg):List Cfg:=(l.filter fun c=>decide (0≤t∧nextL g c=t)).map mvC
theorem moveL_take{g:Gram}{t:Int}{L:List CA}{i:Nat}(h:i<L.length):moveL g t ((L.take (i+1)).map (·.1))=moveL g t ((L.take i).map (·.1))++if 0≤t∧nextL g L[i].1=t then [mvC L[i].1] else []:=by
 unfold moveL
 rw[List.take_add_one,List.getElem?_eq_getElem h,List.map_append,List.filter_append,List.map_append]
 congr 1
 by_cases hc:0≤t∧nextL g L[i].1=t <;> simp[hc]
theorem moveL_len{g:Gram}{t:Int}{l:List Cfg}:(moveL g t l).length≤l.length:=by
 unfold moveL
 rw[List.length_map]
 exact List.length_filter_le _ _
theorem moveL_at{g:Gram}{t:Int}{l:List Cfg}{c:Cfg}(h:c∈moveL g t l):∃d∈l,c=mvC d∧0≤t∧nextL g d=t:=by
 unfold moveL at h
 obtain⟨d,hd,rfl⟩:=List.mem_map.1 h
 obtain⟨h1,h2⟩:=List.mem_filter.1 hd
 simp only[decide_eq_true_eq]at h2
 exact⟨d,h1,rfl,h2⟩
theorem next_dot{g:Gram}{c:Cfg}{t:Int}(gc:GC g c)(h0:0≤t)(h:nextL g c=t):∃r:GRule,0≤c.rule∧g.rules[c.rule.toNat]? = some r∧0≤c.dot∧c.dot<r.right.length:=by
 unfold nextL at h
 split at h
 ·omega
 rename_i hn
 split at h
 ·omega
 rename_i r hr
 obtain⟨d0,d1⟩:=gc.1.2 r (by omega) hr
 split at h
 ·omega
 exact⟨r,by omega,hr,d0,by omega⟩
theorem mvC_gc{g:Gram}{c:Cfg}{t:Int}(gc:GC g c)(h0:0≤t)(h:nextL g c=t):GC g (mvC c):=by
 obtain⟨r,_,hr,d0,d1⟩:=next_dot gc h0 h
 refine⟨⟨gc.1.1,fun r' h0' hr'=>?_⟩,gc.2⟩
 have hr'':g.rules[c.rule.toNat]? = some r':=hr'
 rw[hr]at hr''
 cases hr''
 exact⟨by show 0≤c.dot+1;omega,by show c.dot+1≤_;omega⟩
end Go.Proofs.YtjlgpanihjnaeaaGreatDoor

namespace Go.Proofs.YtjlgpanihjnaeaaGreatDoor
open Go.AM
set_option maxRecDepth 100000
theorem spk_kx{n n' y:Nat}{H H':Heap}{cs:List Value}(hw:WF n H)(hy:H y=.cells cs 82 true)(k:Kx (fun z=>z=y) n H n' H'):SpK H H':=fun z _ _ hz=>(k.keep z (live_lt hw (live_of hz)) (by rintro rfl;rw[hy]at hz;simp at hz)).trans hz
set_option maxHeartbeats 16000000 in
theorem move_givesE {nn n cc : Nat} {H : Heap} {t : Int} {p : Option Addr} {L : List CA} {pt pv pr : Option Addr} {g : Gram} {cl : List (Option Addr × List (Int × Int))} (hw : WF n H) (ne : NE H nn pt pv pr g cc cl) (ok : RightOK g) (hL : L ≠ [] → RN 4 ccell H p L) (hx : ∀ z ∈ L, XC H z) (hv : ∀ x ∈ L, GC g x.1) (hl : L.length ≤ 65536) (hls : ∀ z ∈ L, z.1.stack.length ≤ 65536) :
    Gives Tryz.prog 36 [.pointer (some ⟨nn, 0, none⟩), .slice p L.length L.length, .int .i64 t] n H fun w _ H' => ∃ p' M, w = .slice p' M.length M.length ∧ RN 4 ccell H' p' M ∧ M.map (·.1) = moveL g t (L.map (·.1)) ∧ ∀ z ∈ M, XC H' z := by
  have hi := ok.inG
  have hgl : g.terms.length ≤ 64 ∧ g.vars.length ≤ 64 := ⟨ok.terms, ok.vars⟩
  have hlen : ∀ r ∈ g.rules, r.right.length ≤ 24 := fun r hr => by
    obtain ⟨i, hi, rfl⟩ := List.getElem_of_mem hr
    exact (ok.rule i hi).len
  refine Gives.of orders ok36 (Nat.le_of_ble_eq_true rfl) ?_
  have v1 : ∀ s, vcells (.agg (ccell s).toArray) = ccell s := fun _ => rfl
  have v2 : ∀ s, (ccell s).all one = true := fun _ => rfl
  have v0 : ∀ s, (ccell s)[0]? = some (.int .i64 s.1.alt) := fun _ => rfl
  have v3 : ∀ s, (ccell s)[1]? = some (.int .i64 s.1.rule) := fun _ => rfl
  have v8 : ∀ s, (ccell s)[2]? = some (.int .i64 s.1.dot) := fun _ => rfl
  have v4 : ∀ s, (ccell s)[3]? = some (.slice s.2 s.1.stack.length s.1.stack.length) := fun _ => rfl
  have v5 : ∀ s, (ccell s).length = 4 := fun _ => rfl
  have v6 : ∀ s, ((ccell s).drop 0).take 4 = ccell s := fun _ => rfl
  have hs4 : ∀ (a b c d : Value) (x : CA), AM.splice [a, b, c, d] 0 (ccell x) = ccell x := fun _ _ _ _ _ => rfl
  repeat (first | refine qqm rfl ?_ | ((first | refine qqr ?_ | refine qqt ?_); simp only [SS, qx30, simprocAttr, ff_36]))
  refine WK.loop (fun kk s => ∃ (i y : Nat) (M : List CA), Kp n H s.n s.H ∧ s.f 0 = .pointer (some ⟨nn, 0, none⟩) ∧ s.f 2 = .int .i64 t ∧ s.f 10 = .slice p L.length L.length ∧ s.f 11 = .int .i64 (L.length : Nat) ∧ s.f 12 = .int .i64 (i : Nat) ∧ s.f 7 = sl y M.length ∧ (M ≠ [] → n ≤ y ∧ y < s.n ∧ s.H y = .cells (M.flatMap ccell) 82 true) ∧ (∀ z ∈ M, XC s.H z) ∧ i ≤ L.length ∧ M.length ≤ i ∧
      M.map (·.1) = moveL g t ((L.take i).map (·.1)) ∧ kk = L.length - i) L.length ?_ ?_
  · exact ⟨0, 0, [], Kp.refl _ _, rfl, rfl, rfl, rfl, rfl, rfl, fun h => absurd rfl h, fun z hz => (by cases hz), Nat.zero_le _, Nat.zero_le _, rfl, rfl⟩
  rintro kk ⟨f, n5, H5⟩ ⟨i, y, M, k5, f0, f2, f10, f11, f12, f7, hy, hMx, hil, hMl, hMm, rfl⟩ ih
  simp only at k5 f0 f2 f10 f11 f12 f7 hy hMx ih
  have hle5 := k5.le
  have hw5 := k5.wf hw
  by_cases hlt : i < L.length
  · have hiw : IntKind.i64.wrap ((i : Int) + 1) = ((i + 1 : Nat) : Int) := by rw [wrap_in (by omega) (by omega)]; rfl
    have hmt := moveL_take (g := g) (t := t) hlt
    have hmem := List.getElem_mem hlt
    obtain ⟨u, k0, cs, ty, own, q1, q2, q3, q4⟩ := ((hL (by intro e; rw [e] at hlt; exact Nat.not_lt_zero _ hlt)).mono hw k5).at ccell_len hlt
    subst q1
    have hun := live_lt hw5 (live_of q2)
    have kn := Kp.new n5 H5 (.cells (ccell L[i]) 82 true)
    have k5n := k5.trans kn
    by_cases ht0 : 0 ≤ t
    · repeat (first | refine qqm rfl ?_ | ((first | refine qqr ?_ | refine qqt ?_); simp only [SS, qx30, simprocAttr, f0, f2, f10, f11, f12, hlt, q2, q3, q4, v1, v2, v5, v6, hs4, ht0, decide_true, hset_at, ff_36]))
      have hnn := hset_at H5 n5 (.cells (ccell L[i]) 82 true)
      generalize hset H5 n5 (.cells (ccell L[i]) 82 true) = H6 at *
      have hw6 := kn.wf hw5
      refine AtCall.by (next_gives hw k5n ne hi hgl hlen (hv _ hmem).1.1 (fun r h0 hr => (hv _ hmem).1.2 r h0 hr)) ?_
      rintro _ n7 H7 k7 rfl
      have hw7 := k7.wf hw6
      have hle7 := k7.le
      have k57 := k5n.trans k7
      have kn7 := kn.trans k7
      have hnn7 := (k7.keep n5 (by omega)).trans hnn
      by_cases hnx : nextL g L[i].1 = t
      · rw [if_pos ⟨ht0, hnx⟩] at hmt
        obtain ⟨ru, r0, hr1, d0, d1⟩ := next_dot (hv _ hmem) ht0 hnx
        have hd24 := hlen ru (List.mem_of_getElem? hr1)
        have hdw : IntKind.i64.wrap (L[i].1.dot + 1) = L[i].1.dot + 1 := wrap_in (by omega) (by omega)
        have hxc : XC H7 L[i] := (hx _ hmem).keep (Kp.spk hw k57)
        have hzl := hls _ hmem
        simp only [SS, qx30, simprocAttr, hnx, f2, decide_true, ff_36]
        repeat (first | refine qqm rfl ?_ | ((first | refine qqr ?_ | refine qqt ?_); simp only [SS, qx30, simprocAttr, f7, hnn7, v0, v3, v4, v5, v8, hdw, ff_36]))
        refine AtCall.by (clone_gives hw7 hxc (by omega)) ?_
        rintro _ n8 H8 k8 ⟨pc, rfl, hpc⟩
        have hw8 := k8.wf hw7
        have hle8 := k8.le
        have hnew := hpc.xc L[i].1.alt L[i].1.rule (L[i].1.dot + 1)
        have kn8 := kn7.trans k8
        have k58 := k57.trans k8
        generalize hz : L[i] = z at *
        by_cases hM0 : M = []
        · subst hM0
          have f7' : f 7 = .slice none 0 0 := f7
          simp only [SS, qx30, simprocAttr, f7', ff_36]
          repeat (first | refine qqm rfl ?_ | ((first | refine qqr ?_ | refine qqt ?_); simp only [SS, qx30, simprocAttr, f12, hiw, ff_36]))
          have k8p : ∀ A C, Kp n8 H8 (n8 + 1 + 1) (hset (hset H8 n8 A) (n8 + 1) C) := fun A C => (Kp.new n8 H8 A).trans (Kp.new (n8 + 1) _ C)
          refine ih (L.length - (i + 1)) (by omega) _ ?_
          refine ⟨i + 1, n8 + 1, [(mvC z.1, pc)], k58.trans (k8p _ _), f0, f2, f10, f11, rfl, rfl, fun _ => ⟨by omega, Nat.lt_succ_self _, hset_at _ _ _⟩, fun q hq => ?_, hlt, by simp, ?_, rfl⟩
          · rw [List.mem_singleton] at hq
            rw [hq]
            exact hnew.keep (Kp.spk hw8 (k8p _ _))
          · rw [hmt, ← hMm]; rfl
        · obtain ⟨hy0, hyn, hyc⟩ := hy hM0
          have hM1 : 0 < M.length := List.length_pos_iff.2 hM0
          have hsl0 : sl y M.length = .slice (some ⟨y, 0, none⟩) M.length M.length := sl_pos (by omega)
          have hyc8 := (kn8.keep y (by omega)).trans hyc
          have hy7 : ∀ o, hset H8 n8 o y = _ := fun o => (hset_ne _ _ _ (by omega)).trans hyc8
          have bl : M.length + 1 ≤ bigN := by unfold bigN; omega
          have hct : [n8].contains y = false := by simp; omega
          have hfl : (M.flatMap ccell).length = M.length * 4 := fm_len ccell_len _
          have htk : (M.flatMap ccell).take (M.length * 4) = M.flatMap ccell := List.take_of_length_le (by omega)
          simp only [SS, qx30, simprocAttr, f7, hsl0, hy7, bl, hct, hfl, htk, hset_at, Nat.le_refl, List.drop_zero, ff_36]
          repeat (first | refine qqm rfl ?_ | ((first | refine qqr ?_ | refine qqt ?_); simp only [SS, qx30, simprocAttr, f12, hiw, hy7, bl, hct, hfl, htk, hset_at, Nat.le_refl, List.drop_zero, ff_36]))
          have k8x : ∀ A C, Kx (fun z => z = y) n8 H8 (n8 + 1 + 1) (hset (hset (hset H8 n8 A) y .dead) (n8 + 1) C) := fun A C => (((Kp.new n8 H8 A).kx (X := fun z => z = y)).set (x := y) .dead (.inl rfl) (by omega)).trans (Kp.new (n8 + 1) _ C).kx
          refine ih (L.length - (i + 1)) (by omega) _ ?_
          have k8y := k8x (.cells (ccell (mvC z.1, pc)) 82 true) (.cells (M.flatMap ccell ++ ccell (mvC z.1, pc)) 82 true)
          refine ⟨i + 1, n8 + 1, M ++ [(mvC z.1, pc)], ⟨by show n ≤ n8 + 1 + 1; omega, fun q hq => (k8y.keep q (by omega) (by omega)).trans (k58.keep q hq), fun h => k8y.wf (k58.wf h)⟩, f0, f2, f10, f11, rfl, ?_, fun _ => ⟨by omega, Nat.lt_succ_self _, ?_⟩, fun q hq => ?_, hlt, by simp; omega, ?_, rfl⟩
          · rw [List.length_append, List.length_singleton, sl_pos (by omega)]; rfl
          · rw [List.flatMap_append, List.flatMap_singleton]; exact hset_at _ _ _
          · rcases List.mem_append.1 hq with hq | hq
            · exact ((hMx q hq).keep (Kp.spk hw5 kn8)).keep (spk_kx hw8 hyc8 k8y)
            · rw [List.mem_singleton] at hq
              rw [hq]
              exact hnew.keep (spk_kx hw8 hyc8 k8y)
          · rw [List.map_append, hMm, hmt]; rfl
      · rw [if_neg (fun h => hnx h.2), List.append_nil] at hmt
        simp only [SS, qx30, simprocAttr, hnx, f2, decide_false, ff_36]
        repeat (first | refine qqm rfl ?_ | ((first | refine qqr ?_ | refine qqt ?_); simp only [SS, qx30, simprocAttr, f12, hiw, ff_36]))
        refine ih (L.length - (i + 1)) (by omega) _ ?_
        exact ⟨i + 1, y, M, k57, f0, f2, f10, f11, rfl, f7, fun h => ⟨(hy h).1, by have := (hy h).2.1; show _ < n7; omega, (kn7.keep y (hy h).2.1).trans (hy h).2.2⟩, fun z hz => (hMx z hz).keep (Kp.spk hw5 kn7), hlt, by omega, by rw [hmt]; exact hMm, rfl⟩
    · rw [if_neg (fun h => ht0 h.1), List.append_nil] at hmt
      repeat (first | refine qqm rfl ?_ | ((first | refine qqr ?_ | refine qqt ?_); simp only [SS, qx30, simprocAttr, f0, f2, f10, f11, f12, hlt, q2, q3, q4, v1, v2, v5, v6, hs4, ht0, decide_false, hset_at, hiw, ff_36]))
      refine ih (L.length - (i + 1)) (by omega) _ ?_
      exact ⟨i + 1, y, M, k5n, f0, f2, f10, f11, rfl, f7, fun h => ⟨(hy h).1, by have := (hy h).2.1; show _ < n5 + 1; omega, (kn.keep y (hy h).2.1).trans (hy h).2.2⟩, fun z hz => (hMx z hz).keep (Kp.spk hw5 kn), hlt, by omega, by rw [hmt]; exact hMm, rfl⟩
  · obtain rfl : i = L.length := by omega
    rw [List.take_length] at hMm
    rw [sl_eq] at f7
    repeat (first | refine qqm rfl ?_ | ((first | refine qqr ?_ | refine qqt ?_); simp only [SS, qx30, simprocAttr, f7, f11, f12, hlt, ff_36]))
    first | refine qqf ?_ ?_ | refine qqg ?_ ?_
    · exact k5.keep
    · simp only [packed, qv, Nat.reduceEqDiff, ↓reduceIte, ff_36]
      refine ⟨slp y M.length, M, rfl, ?_, hMm, hMx⟩
      by_cases hM0 : M = []
      · subst hM0; exact .inl ⟨rfl, rfl⟩
      · obtain ⟨_, _, hyc⟩ := hy hM0
        have hM1 : 0 < M.length := List.length_pos_iff.2 hM0
        rw [slp_pos (by omega)]
        exact .inr ⟨y, 0, _, _, true, rfl, hyc, by rw [fm_len ccell_len]; omega, by rw [List.drop_zero]; exact List.take_of_length_le (by rw [fm_len ccell_len]; omega)⟩
theorem move_gives{nn n cc:Nat}{H:Heap}{t:Int}{p:Option Addr}{L:List CA}{pt pv pr:Option Addr}{g:Gram}{cl:List (Option Addr × List (Int × Int))}(hw:WF n H)(ne:NE H nn pt pv pr g cc cl)(ok:RightOK g)(hL:RN 4 ccell H p L)(hx:∀z∈L,XC H z)(hv:∀x∈L,GC g x.1)(hl:L.length≤65536)(hls:∀z∈L,z.1.stack.length≤65536) :
  Gives Tryz.prog 36 [.pointer (some ⟨nn,0,none⟩),.slice p L.length L.length,.int .i64 t] n H fun w _ H'=>∃p' M,w=.slice p' M.length M.length∧RN 4 ccell H' p' M∧M.map (·.1)=moveL g t (L.map (·.1))∧∀z∈M,XC H' z :=
 move_givesE hw ne ok (fun _=>hL) hx hv hl hls
end Go.Proofs.YtjlgpanihjnaeaaGreatDoor
