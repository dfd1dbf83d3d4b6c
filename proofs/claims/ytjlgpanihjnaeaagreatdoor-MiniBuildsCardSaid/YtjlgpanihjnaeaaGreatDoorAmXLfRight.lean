/- A part of a proof. Its conditions: none. -/
import Derived.Test.YtjlgpanihjnaeaaGreatDoorAmXLfBytes
import Derived.Test.YtjlgpanihjnaeaaGreatDoorAmXFacts
import Derived.Test.YtjlgpanihjnaeaaGreatDoorAmC
import Derived.Test.YtjlgpanihjnaeaaGreatDoorAmD
set_option linter.all false
namespace Go.Proofs.YtjlgpanihjnaeaaGreatDoor
open Go.AM
set_option maxRecDepth 100000
theorem bget{s:ByteArray}{i:Nat}(h:i<s.size):s[i]? = some s[i]:=getElem?_pos s i h
def NB(s:ByteArray):Prop:=s.size≤24∧(∃h:0<s.size,letter s[0].toNat=true)∧∀(i:Nat) (h:i<s.size),inner s[i].toNat=true
def QB(s:ByteArray):Prop:=1≤s.size∧s.size≤16∧∀(i:Nat) (h:i<s.size),quotable s[i].toNat=true
theorem isName_gives(s:ByteArray)(n:Nat)(H:Heap):Gives Tryz.prog 22 [.string s] n H fun v n' H'=>(∃b,v=.bool b∧(b=true→NB s))∧n'=n∧H'=H:=by
 refine Gives.of orders ok22 (Nat.le_of_ble_eq_true rfl) ?_
 by_cases h1:(s.size:Int)<1
 ·repeat (first|refine qqm rfl ?_|((first|refine qqr ?_|refine qqt ?_);simp only[SS,qx9,vun,simprocAttr,h1,ff_22]))
  first|refine qqf ?_ ?_|refine qqg ?_ ?_
  ·exact fun _ _=>rfl
  ·simp only[packed,qv,Nat.reduceEqDiff,↓reduceIte,ff_22]
   simp
 by_cases h2:(24:Int)<s.size
 ·repeat (first|refine qqm rfl ?_|((first|refine qqr ?_|refine qqt ?_);simp only[SS,qx9,vun,simprocAttr,h1,h2,ff_22]))
  first|refine qqf ?_ ?_|refine qqg ?_ ?_
  ·exact fun _ _=>rfl
  ·simp only[packed,qv,Nat.reduceEqDiff,↓reduceIte,ff_22]
   simp
 have e0:s[0]? = some s[0]:=bget (by omega)
 repeat (first|refine qqm rfl ?_|((first|refine qqr ?_|refine qqt ?_);simp only[SS,qx9,vun,simprocAttr,h1,h2,e0,ff_22]))
 refine AtCall.by (letter_gives _ n H) ?_
 rintro v n' H' hk ⟨rfl,rfl,rfl⟩
 cases h3:letter s[0].toNat
 ·simp only[SS,qx9,vun,simprocAttr,h1,h2,ff_22]
  repeat (first|refine qqm rfl ?_|((first|refine qqr ?_|refine qqt ?_);simp only[SS,qx9,vun,simprocAttr,h1,h2,ff_22]))
  first|refine qqf ?_ ?_|refine qqg ?_ ?_
  ·exact fun _ _=>rfl
  ·simp only[packed,qv,Nat.reduceEqDiff,↓reduceIte,ff_22]
   simp
 simp only[SS,qx9,vun,simprocAttr,h1,h2,ff_22]
 repeat (first|refine qqm rfl ?_|((first|refine qqr ?_|refine qqt ?_);simp only[SS,qx9,vun,simprocAttr,h1,h2,ff_22]))
 refine WK.loop (fun k s'=>∃i,s'.n=n'∧s'.H=H'∧s'.f 0=.string s∧s'.f 3=.int .i64 (i:Nat)∧i≤s.size∧(∀(j:Nat) (h:j<s.size),j<i→inner s[j].toNat=true)∧k=s.size - i) s.size ?_ ?_
 ·exact⟨0,rfl,rfl,rfl,rfl,Nat.zero_le _,fun _ _ h=>absurd h (Nat.not_lt_zero _),rfl⟩
 rintro k ⟨f,n',H'⟩ ⟨i,rfl,rfl,f0,f3,hi,hin,rfl⟩ ih
 simp only at f0 f3 ih
 by_cases hi:i<s.size
 ·have ei:s[i]? = some s[i]:=bget hi
  repeat (first|refine qqm rfl ?_|((first|refine qqr ?_|refine qqt ?_);simp only[SS,qx9,vun,simprocAttr,f0,f3,hi,ei,ff_22]))
  refine AtCall.by (inner_gives _ _ _) ?_
  rintro v n' H' hk ⟨rfl,rfl,rfl⟩
  cases h4:inner s[i].toNat
  ·simp only[SS,qx9,vun,simprocAttr,f0,f3,ff_22]
   repeat (first|refine qqm rfl ?_|((first|refine qqr ?_|refine qqt ?_);simp only[SS,qx9,vun,simprocAttr,f0,f3,ff_22]))
   first|refine qqf ?_ ?_|refine qqg ?_ ?_
   ·exact fun _ _=>rfl
   ·simp only[packed,qv,Nat.reduceEqDiff,↓reduceIte,ff_22]
    simp
  ·simp only[SS,qx9,vun,simprocAttr,f0,f3,ff_22]
   repeat (first|refine qqm rfl ?_|((first|refine qqr ?_|refine qqt ?_);simp only[SS,qx9,vun,simprocAttr,f0,f3,ff_22]))
   refine ih (s.size - (i+1)) (by omega) _ ⟨i+1,rfl,rfl,f0,?_,hi,fun j h hj=>?_,rfl⟩
   ·simp only[packed,qv,Nat.reduceEqDiff,↓reduceIte,ff_22]
    rw[wrap_in (by omega) (by omega)];rfl
   ·by_cases e:j=i
    ·subst e;exact h4
    ·exact hin j h (by omega)
 ·have hall:NB s:=⟨by omega,⟨by omega,h3⟩,fun j h=>hin j h (by omega)⟩
  repeat (first|refine qqm rfl ?_|((first|refine qqr ?_|refine qqt ?_);simp only[SS,qx9,vun,simprocAttr,f0,f3,hi,ff_22]))
  first|refine qqf ?_ ?_|refine qqg ?_ ?_
  ·exact fun _ _=>rfl
  ·simp only[packed,qv,Nat.reduceEqDiff,↓reduceIte,ff_22]
   refine⟨⟨true,rfl,fun _=>hall⟩,?_⟩;simp
theorem isQuote_gives(s:ByteArray)(hs:s.size≤maxL)(n:Nat)(H:Heap):Gives Tryz.prog 24 [.string s] n H fun v n' H'=>(∃b,v=.bool b∧(b=true→QB s))∧n'=n∧H'=H:=by
 refine Gives.of orders ok24 (Nat.le_of_ble_eq_true rfl) ?_
 repeat (first|refine qqm rfl ?_|((first|refine qqr ?_|refine qqt ?_);simp only[SS,qx9,vun,simprocAttr,ff_24]))
 refine WK.loop (fun k s'=>∃i,s'.n=n∧s'.H=H∧s'.f 0=.string s∧s'.f 3=.int .i64 (i:Nat)∧i≤s.size∧(∀(j:Nat) (h:j<s.size),j<i→quotable s[j].toNat=true)∧k=s.size - i) s.size ?_ ?_
 ·exact⟨0,rfl,rfl,rfl,rfl,Nat.zero_le _,fun _ _ h=>absurd h (Nat.not_lt_zero _),rfl⟩
 rintro k ⟨f,n',H'⟩ ⟨i,rfl,rfl,f0,f3,hi,hin,rfl⟩ ih
 simp only at f0 f3 ih
 by_cases hi:i<s.size
 ·have ei:s[i]? = some s[i]:=bget hi
  repeat (first|refine qqm rfl ?_|((first|refine qqr ?_|refine qqt ?_);simp only[SS,qx9,vun,simprocAttr,f0,f3,hi,ei,ff_24]))
  refine AtCall.by (quotable_gives _ _ _) ?_
  rintro v n' H' hk ⟨rfl,rfl,rfl⟩
  cases h4:quotable s[i].toNat
  ·simp only[SS,qx9,vun,simprocAttr,f0,f3,ff_24]
   repeat (first|refine qqm rfl ?_|((first|refine qqr ?_|refine qqt ?_);simp only[SS,qx9,vun,simprocAttr,f0,f3,ff_24]))
   first|refine qqf ?_ ?_|refine qqg ?_ ?_
   ·exact fun _ _=>rfl
   ·simp only[packed,qv,Nat.reduceEqDiff,↓reduceIte,ff_24]
    simp
  ·simp only[SS,qx9,vun,simprocAttr,f0,f3,ff_24]
   repeat (first|refine qqm rfl ?_|((first|refine qqr ?_|refine qqt ?_);simp only[SS,qx9,vun,simprocAttr,f0,f3,ff_24]))
   refine ih (s.size - (i+1)) (by omega) _ ⟨i+1,rfl,rfl,f0,?_,hi,fun j h hj=>?_,rfl⟩
   ·simp only[packed,qv,Nat.reduceEqDiff,↓reduceIte,ff_24]
    unfold maxL at hs
    rw[wrap_in (by omega) (by omega)];rfl
   ·by_cases e:j=i
    ·subst e;exact h4
    ·exact hin j h (by omega)
 ·by_cases h1:(1:Int)≤s.size
  ·by_cases h2:(s.size:Int)≤16
   ·have hall:QB s:=⟨by omega,by omega,fun j h=>hin j h (by omega)⟩
    repeat (first|refine qqm rfl ?_|((first|refine qqr ?_|refine qqt ?_);simp only[SS,qx9,vun,simprocAttr,f0,f3,hi,h1,h2,ff_24]))
    first|refine qqf ?_ ?_|refine qqg ?_ ?_
    ·exact fun _ _=>rfl
    ·simp only[packed,qv,Nat.reduceEqDiff,↓reduceIte,ff_24]
     refine⟨⟨_,rfl,fun _=>hall⟩,?_⟩;simp
   ·repeat (first|refine qqm rfl ?_|((first|refine qqr ?_|refine qqt ?_);simp only[SS,qx9,vun,simprocAttr,f0,f3,hi,h1,h2,ff_24]))
    first|refine qqf ?_ ?_|refine qqg ?_ ?_
    ·exact fun _ _=>rfl
    ·simp only[packed,qv,Nat.reduceEqDiff,↓reduceIte,ff_24]
     simp
  ·repeat (first|refine qqm rfl ?_|((first|refine qqr ?_|refine qqt ?_);simp only[SS,qx9,vun,simprocAttr,f0,f3,hi,h1,ff_24]))
   first|refine qqf ?_ ?_|refine qqg ?_ ?_
   ·exact fun _ _=>rfl
   ·simp only[packed,qv,Nat.reduceEqDiff,↓reduceIte,ff_24]
    simp
def place(l:List ByteArray)(s:ByteArray):Nat→Int
 | i=>match l with
  | []=>-1
  | a::l=>if a.toList=s.toList then i else place l s (i+1)
theorem place_gives{p:Option Addr}{l:List ByteArray}{s:ByteArray}{n:Nat}{H:Heap}(h:RA Value.string H p l)(hl:l.length≤maxL) :
  Gives Tryz.prog 23 [.slice p l.length l.length,.string s] n H fun v n' H'=>v=.int .i64 (place l s 0)∧n'=n∧H'=H:=by
 refine Gives.of orders ok23 (Nat.le_of_ble_eq_true rfl) ?_
 repeat (first|refine qqm rfl ?_|((first|refine qqr ?_|refine qqt ?_);simp only[SS,qx13,simprocAttr,ff_23]))
 refine WK.loop (fun k s'=>∃i,s'.n=n∧s'.H=H∧s'.f 0=.slice p l.length l.length∧s'.f 1=.string s∧s'.f 5=.int .i64 (i:Nat)∧i≤l.length∧k=l.length - i∧place (l.drop i) s i=place l s 0) l.length ?_ ?_
 ·exact⟨0,rfl,rfl,rfl,rfl,rfl,Nat.zero_le _,rfl,rfl⟩
 rintro k ⟨f,n',H'⟩ ⟨i,rfl,rfl,f0,f1,f5,hi,rfl,hpl⟩ ih
 simp only at f0 f1 f5 ih h
 by_cases hi:i<l.length
 ·obtain⟨x,k,cs,ty,own,rfl,hx,e⟩:=h.at hi
  have d:l.drop i=l[i]::l.drop (i+1):=List.drop_eq_getElem_cons hi
  by_cases he:(l[i].toList == s.toList)=true
  ·repeat (first|refine qqm rfl ?_|((first|refine qqr ?_|refine qqt ?_);simp only[SS,qx13,simprocAttr,f0,f1,f5,hi,hx,e,he,ff_23]))
   first|refine qqf ?_ ?_|refine qqg ?_ ?_
   ·exact fun _ _=>rfl
   ·simp only[packed,qv,Nat.reduceEqDiff,↓reduceIte,f5,ff_23]
    rw[←hpl,d,place,if_pos (by simpa using he)];trivial
  ·have he:(l[i].toList == s.toList)=false:=by simpa using he
   repeat (first|refine qqm rfl ?_|((first|refine qqr ?_|refine qqt ?_);simp only[SS,qx13,simprocAttr,f0,f1,f5,hi,hx,e,he,ff_23]))
   refine ih (l.length - (i+1)) (by omega) _ ⟨i+1,rfl,rfl,f0,f1,?_,hi,rfl,?_⟩
   ·simp only[packed,qv,Nat.reduceEqDiff,↓reduceIte,ff_23]
    unfold maxL at hl
    rw[wrap_in (by omega) (by omega)];rfl
   ·rw[←hpl,d]
    conv=>rhs;rw[place]
    rw[if_neg (by simpa using he)]
 ·repeat (first|refine qqm rfl ?_|((first|refine qqr ?_|refine qqt ?_);simp only[SS,qx13,simprocAttr,f0,f1,f5,hi,ff_23]))
  first|refine qqf ?_ ?_|refine qqg ?_ ?_
  ·exact fun _ _=>rfl
  ·simp only[packed,qv,Nat.reduceEqDiff,↓reduceIte,ff_23]
   rw[←hpl,List.drop_eq_nil_of_le (by omega)]
   simp[place]
end Go.Proofs.YtjlgpanihjnaeaaGreatDoor

namespace Go.Proofs.YtjlgpanihjnaeaaGreatDoor
open Go.AM
set_option maxRecDepth 100000
theorem isVar_gives(x:Int)(n:Nat)(H:Heap):Gives Tryz.prog 31 [.int .i64 x] n H fun v n' H'=>v=.bool (decide (0≤x))∧n'=n∧H'=H:=by
 refine Gives.of orders ok31 (Nat.le_of_ble_eq_true rfl) ?_
 repeat (first|refine qqm rfl ?_|((first|refine qqr ?_|refine qqt ?_);simp only[SS,qx11,simprocAttr]))
 first|refine qqf ?_ ?_|refine qqg ?_ ?_
 ·exact fun _ _=>rfl
 ·simp only[packed,qv,Nat.reduceEqDiff,↓reduceIte]
  simp
def countR(l:List GRule)(x:Int):Nat:=(l.filter fun r=>decide (r.left=x)).length
theorem count_gives{v:Value}{g:Gram}{x:Int}{n:Nat}{H:Heap}(hw:WF n H)(hg:RG H v g)(wg:WG g) :
  Gives Tryz.prog 26 [v,.int .i64 x] n H fun v _ _=>v=.int .i64 (countR g.rules x):=by
 obtain⟨pt,pv,pr,rfl,ht,hv,hr⟩:=hg
 refine Gives.of orders ok26 (Nat.le_of_ble_eq_true rfl) ?_
 have hk:=Kp.new n H (.cells (gcells pt pv pr g) 25 true)
 replace hr:=hr.mono hw hk
 have hb:=hset_at H n (.cells (gcells pt pv pr g) 25 true)
 repeat refine qqn rfl ?_
 (refine qqr ?_;simp only[SS,qx27,simprocAttr,box_cells,box_one,ff_26])
 repeat refine qqn rfl ?_
 generalize hset H n (.cells (gcells pt pv pr g) 25 true)=H1 at *
 repeat (first|refine qqm rfl ?_|((first|refine qqr ?_|refine qqt ?_);simp only[SS,qx27,simprocAttr,ff_26]))
 have hl:=wg.rules
 unfold maxL at hl
 refine WK.loop (fun k s=>∃i c,s.n=n+1∧s.H=H1∧s.f 1=.int .i64 x∧s.f 2=.pointer (some ⟨n,0,none⟩)∧s.f 5=.int .i64 (c:Nat)∧s.f 6=.int .i64 (i:Nat)∧i≤g.rules.length∧c≤i∧k=g.rules.length - i∧c=countR (g.rules.take i) x) g.rules.length ?_ ?_
 ·exact⟨0,0,rfl,rfl,rfl,rfl,rfl,rfl,Nat.zero_le _,Nat.zero_le _,rfl,rfl⟩
 rintro k ⟨f,n',H'⟩ ⟨i,c,rfl,rfl,f1,f2,f5,f6,hi,hci,rfl,hc⟩ ih
 simp only at f1 f2 f5 f6 ih hr hb
 by_cases hir:i<g.rules.length
 ·obtain⟨y,k,cs,ty,own,p,rfl,hx,c0,c1,c2,hp⟩:=hr.at hir
  have ht:g.rules.take (i+1)=g.rules.take i++[g.rules[i]]:=List.take_succ_eq_append_getElem hir
  by_cases he:g.rules[i].left=x
  ·repeat (first|refine qqm rfl ?_|((first|refine qqr ?_|refine qqt ?_);simp only[SS,qx27,simprocAttr,f1,f2,f5,f6,hb,gc_2,hir,hx,c0,he,ff_26]))
   refine ih (g.rules.length - (i+1)) (by omega) _ ⟨i+1,c+1,rfl,rfl,f1,f2,?_,?_,hir,by omega,rfl,?_⟩
   ·simp only[packed,qv,Nat.reduceEqDiff,↓reduceIte,ff_26]
    rw[wrap_in (by omega) (by omega)];rfl
   ·simp only[packed,qv,Nat.reduceEqDiff,↓reduceIte,f6,ff_26]
    rw[wrap_in (by omega) (by omega)];rfl
   ·rw[ht,hc];unfold countR;rw[List.filter_append,List.length_append];simp[he]
  ·repeat (first|refine qqm rfl ?_|((first|refine qqr ?_|refine qqt ?_);simp only[SS,qx27,simprocAttr,f1,f2,f5,f6,hb,gc_2,hir,hx,c0,he,ff_26]))
   refine ih (g.rules.length - (i+1)) (by omega) _ ⟨i+1,c,rfl,rfl,f1,f2,f5,?_,hir,by omega,rfl,?_⟩
   ·simp only[packed,qv,Nat.reduceEqDiff,↓reduceIte,ff_26]
    rw[wrap_in (by omega) (by omega)];rfl
   ·rw[ht,hc];unfold countR;rw[List.filter_append,List.length_append];simp[he]
 ·repeat (first|refine qqm rfl ?_|((first|refine qqr ?_|refine qqt ?_);simp only[SS,qx27,simprocAttr,f1,f2,f5,f6,hb,gc_2,hir,ff_26]))
  first|refine qqf ?_ ?_|refine qqg ?_ ?_
  ·exact hk.keep
  ·simp only[packed,qv,Nat.reduceEqDiff,↓reduceIte,f5,ff_26]
   rw[List.take_of_length_le (by omega)]at hc
   rw[hc]
def usesR(l:List GRule)(x:Int):Bool:=l.any fun r=>r.right.any fun s=>decide (s=x)
theorem uses_gives{v:Value}{g:Gram}{x:Int}{n:Nat}{H:Heap}(hw:WF n H)(hg:RG H v g)(wg:WG g) :
  Gives Tryz.prog 27 [v,.int .i64 x] n H fun v _ _=>v=.bool (usesR g.rules x):=by
 obtain⟨pt,pv,pr,rfl,ht,hv,hr⟩:=hg
 refine Gives.of orders ok27 (Nat.le_of_ble_eq_true rfl) ?_
 have hk:=Kp.new n H (.cells (gcells pt pv pr g) 25 true)
 replace hr:=hr.mono hw hk
 have hb:=hset_at H n (.cells (gcells pt pv pr g) 25 true)
 repeat refine qqn rfl ?_
 (refine qqr ?_;simp only[SS,qx27,simprocAttr,box_cells,box_one,ff_27])
 repeat refine qqn rfl ?_
 generalize hset H n (.cells (gcells pt pv pr g) 25 true)=H1 at *
 repeat (first|refine qqm rfl ?_|((first|refine qqr ?_|refine qqt ?_);simp only[SS,qx27,simprocAttr,ff_27]))
 have hl:=wg.rules
 unfold maxL at hl
 refine WK.loop (fun k s=>∃i,s.n=n+1∧s.H=H1∧s.f 1=.int .i64 x∧s.f 2=.pointer (some ⟨n,0,none⟩)∧s.f 5=.int .i64 (i:Nat)∧i≤g.rules.length∧k=g.rules.length - i∧usesR (g.rules.take i) x=false) g.rules.length ?_ ?_
 ·exact⟨0,rfl,rfl,rfl,rfl,rfl,Nat.zero_le _,rfl,rfl⟩
 rintro k ⟨f,n',H'⟩ ⟨i,rfl,rfl,f1,f2,f5,hi,rfl,hc⟩ ih
 simp only at f1 f2 f5 ih hr hb
 by_cases hir:i<g.rules.length
 ·obtain⟨y,k,cs,ty,own,p,rfl,hx,c0,c1,c2,hp⟩:=hr.at hir
  have ht:g.rules.take (i+1)=g.rules.take i++[g.rules[i]]:=List.take_succ_eq_append_getElem hir
  obtain⟨hrl,_⟩:=wg.right _ (List.getElem_mem hir)
  unfold maxL at hrl
  repeat (first|refine qqm rfl ?_|((first|refine qqr ?_|refine qqt ?_);simp only[SS,qx27,simprocAttr,f1,f2,f5,hb,gc_2,hir,ff_27]))
  refine WK.loop (fun k s=>∃j,s.n=n+1∧s.H=H'∧s.f 1=.int .i64 x∧s.f 2=.pointer (some ⟨n,0,none⟩)∧s.f 5=.int .i64 (i:Nat)∧s.f 6=.int .i64 (j:Nat)∧j≤g.rules[i].right.length∧k=g.rules[i].right.length - j∧(g.rules[i].right.take j).any (fun s=>decide (s=x))=false) g.rules[i].right.length ?_ ?_
  ·exact⟨0,rfl,rfl,f1,f2,f5,rfl,Nat.zero_le _,rfl,rfl⟩
  rintro k' ⟨f',n',H'⟩ ⟨j,rfl,rfl,f1,f2,f5,f6,hj,rfl,hcj⟩ ih2
  simp only at f1 f2 f5 f6 ih2 ih hr hb hx hp
  by_cases hjr:j<g.rules[i].right.length
  ·obtain⟨z,kz,ds,tz,oz,rfl,hz,e⟩:=hp.at hjr
   have htj:g.rules[i].right.take (j+1)=g.rules[i].right.take j++[g.rules[i].right[j]]:=List.take_succ_eq_append_getElem hjr
   by_cases he:g.rules[i].right[j]=x
   ·repeat (first|refine qqm rfl ?_|((first|refine qqr ?_|refine qqt ?_);simp only[SS,qx27,simprocAttr,f1,f2,f5,f6,hb,gc_2,hir,hx,c1,hjr,hz,e,he,ff_27]))
    first|refine qqf ?_ ?_|refine qqg ?_ ?_
    ·exact hk.keep
    ·simp only[packed,qv,Nat.reduceEqDiff,↓reduceIte,ff_27]
     have:usesR g.rules x=true:=by
      simp only[usesR,List.any_eq_true]
      exact⟨_,List.getElem_mem hir,_,List.getElem_mem hjr,by simpa using he⟩
     rw[this]
   ·repeat (first|refine qqm rfl ?_|((first|refine qqr ?_|refine qqt ?_);simp only[SS,qx27,simprocAttr,f1,f2,f5,f6,hb,gc_2,hir,hx,c1,hjr,hz,e,he,ff_27]))
    refine ih2 (g.rules[i].right.length - (j+1)) (by omega) _ ⟨j+1,rfl,rfl,f1,f2,f5,?_,hjr,rfl,?_⟩
    ·simp only[packed,qv,Nat.reduceEqDiff,↓reduceIte,ff_27]
     rw[wrap_in (by omega) (by omega)];rfl
    ·rw[htj,List.any_append,hcj];simp[he]
  ·repeat (first|refine qqm rfl ?_|((first|refine qqr ?_|refine qqt ?_);simp only[SS,qx27,simprocAttr,f1,f2,f5,f6,hb,gc_2,hir,hx,c1,hjr,ff_27]))
   refine ih (g.rules.length - (i+1)) (by omega) _ ⟨i+1,rfl,rfl,f1,f2,?_,hir,rfl,?_⟩
   ·simp only[packed,qv,Nat.reduceEqDiff,↓reduceIte,ff_27]
    rw[wrap_in (by omega) (by omega)];rfl
   ·rw[List.take_of_length_le (by omega)]at hcj
    rw[ht];simp only[usesR,List.any_append,List.any_cons,List.any_nil,hcj]at hc ⊢
    simpa using hc
 ·repeat (first|refine qqm rfl ?_|((first|refine qqr ?_|refine qqt ?_);simp only[SS,qx27,simprocAttr,f1,f2,f5,hb,gc_2,hir,ff_27]))
  first|refine qqf ?_ ?_|refine qqg ?_ ?_
  ·exact hk.keep
  ·simp only[packed,qv,Nat.reduceEqDiff,↓reduceIte,ff_27]
   rw[List.take_of_length_le (by omega)]at hc
   rw[hc]
end Go.Proofs.YtjlgpanihjnaeaaGreatDoor

namespace Go.Proofs.YtjlgpanihjnaeaaGreatDoor
open Go.AM
set_option maxRecDepth 100000
structure RightOK(g:Gram):Prop where
 vars1:1≤g.vars.length
 vars:g.vars.length≤64
 terms:g.terms.length≤64
 rules:g.rules.length≤256
 rule:∀(i:Nat) (h:i<g.rules.length),RuleOK g i g.rules[i]
 count:∀v:Nat,v<g.vars.length→countR g.rules v≠0
structure RightX(g:Gram):Prop extends RightOK g where
 names:∀(i:Nat) (h:i<g.vars.length),NB g.vars[i]∧place g.vars g.vars[i] 0=i
 quotes:∀(i:Nat) (h:i<g.terms.length),QB g.terms[i]∧∀(q:Nat) (hq:q<g.terms.length),i=q+1→Op.bytesLess g.terms[q].toList g.terms[i].toList=true
 used:∀t:Nat,t<g.terms.length→usesR g.rules (-(t:Int) - 1)=true
 unlike:∀(i:Nat) (h:i<g.rules.length),RuleUn g i g.rules[i]
set_option maxHeartbeats 4000000 in
theorem rightX_gives {v : Value} {g : Gram} {n : Nat} {H : Heap} (hw : WF n H) (hg : RG H v g) (wg : WG g) :
    Gives Tryz.prog 14 [v] n H fun v _ _ => ∃ t, v = .bool t ∧ (t = true → RightX g) := by
  have hg0 := hg
  obtain ⟨pt, pv, pr, rfl, ht, hv, hr⟩ := hg
  refine Gives.of orders ok14 (Nat.le_of_ble_eq_true rfl) ?_
  have hk := Kp.new n H (.cells (gcells pt pv pr g) 25 true)
  have hb := hset_at H n (.cells (gcells pt pv pr g) 25 true)
  repeat refine qqn rfl ?_
  (refine qqr ?_; simp only [SS, qx0, vun, simprocAttr, box_cells, box_one, ff_14])
  repeat refine qqn rfl ?_
  have hw1 := hk.wf hw
  have hg1 := hg0.mono hw hk
  generalize hset H n (.cells (gcells pt pv pr g) 25 true) = H1 at *
  have bad : ∀ (f : Fr) (n' : Nat) (H' : Heap), f 2 = .bool false → Kp (n + 1) H1 n' H' → Fin Tryz.prog Tryz.f14.results.toList n H (fun v _ _ => ∃ t, v = .bool t ∧ (t = true → RightX g)) .ret ⟨f, n', H'⟩ :=
    fun f n' H' hf k => ⟨Or.inr rfl, [f 2], rfl, (hk.trans k).keep, false, hf, fun h => by cases h⟩
  by_cases hA : (g.vars.length : Int) < 1
  · repeat (first | refine qqm rfl ?_ | ((first | refine qqr ?_ | refine qqt ?_); simp only [SS, qx0, vun, simprocAttr, hb, gc_0, gc_1, gc_2, hA, ff_14]))
    exact WK.retNil (bad _ _ _ rfl (Kp.refl _ _))
  by_cases hB : (64 : Int) < g.vars.length
  · repeat (first | refine qqm rfl ?_ | ((first | refine qqr ?_ | refine qqt ?_); simp only [SS, qx0, vun, simprocAttr, hb, gc_0, gc_1, gc_2, hA, hB, ff_14]))
    exact WK.retNil (bad _ _ _ rfl (Kp.refl _ _))
  by_cases hC : (64 : Int) < g.terms.length
  · repeat (first | refine qqm rfl ?_ | ((first | refine qqr ?_ | refine qqt ?_); simp only [SS, qx0, vun, simprocAttr, hb, gc_0, gc_1, gc_2, hA, hB, hC, ff_14]))
    exact WK.retNil (bad _ _ _ rfl (Kp.refl _ _))
  by_cases hD : (256 : Int) < g.rules.length
  · repeat (first | refine qqm rfl ?_ | ((first | refine qqr ?_ | refine qqt ?_); simp only [SS, qx0, vun, simprocAttr, hb, gc_0, gc_1, gc_2, hA, hB, hC, hD, ff_14]))
    exact WK.retNil (bad _ _ _ rfl (Kp.refl _ _))
  repeat (first | refine qqm rfl ?_ | ((first | refine qqr ?_ | refine qqt ?_); simp only [SS, qx0, vun, simprocAttr, hb, gc_0, gc_1, gc_2, hA, hB, hC, hD, ff_14]))
  refine WK.loop (fun k s => ∃ j, s.n = n + 1 ∧ s.H = H1 ∧ s.f 1 = .pointer (some ⟨n, 0, none⟩) ∧ s.f 3 = .int .i64 (j : Nat) ∧ j ≤ g.vars.length ∧ k = g.vars.length - j ∧ ∀ (i : Nat) (h : i < g.vars.length), i < j → NB g.vars[i] ∧ place g.vars g.vars[i] 0 = i) g.vars.length ?_ ?_
  · exact ⟨0, rfl, rfl, rfl, rfl, Nat.zero_le _, rfl, fun _ _ h => absurd h (Nat.not_lt_zero _)⟩
  rintro kk ⟨f, n', H'⟩ ⟨j, rfl, rfl, f1, f3, hj, rfl, hnm⟩ ih
  simp only at f1 f3 ih hb hw1 hg1 hk bad
  obtain ⟨pt', pv', pr', e', ht1, hv1, hr1⟩ := hg1
  obtain ⟨rfl, rfl, rfl⟩ : pt = pt' ∧ pv = pv' ∧ pr = pr' := by simpa [gcells] using e'
  by_cases hjr : j < g.vars.length
  · obtain ⟨x, k, cs, ty, own, rfl, hx, e⟩ := hv1.at hjr
    repeat (first | refine qqm rfl ?_ | ((first | refine qqr ?_ | refine qqt ?_); simp only [SS, qx0, vun, simprocAttr, f1, f3, hb, gc_0, gc_1, gc_2, hjr, hx, e, ff_14]))
    refine AtCall.by (isName_gives _ _ _) ?_
    rintro v n' H' hk' ⟨⟨t, rfl, hnb⟩, rfl, rfl⟩
    cases t
    · simp only [SS, qx0, vun, simprocAttr, hb, hx, f1, f3, ff_14]
      repeat (first | refine qqm rfl ?_ | ((first | refine qqr ?_ | refine qqt ?_); simp only [SS, qx0, vun, simprocAttr, hb, hx, f1, f3, ff_14]))
      exact WK.retNil (bad _ _ _ rfl (Kp.refl _ _))
    · simp only [SS, qx0, vun, simprocAttr, f1, f3, hb, gc_0, gc_1, gc_2, hjr, hx, e, ff_14]
      refine AtCall.by (place_gives hv1 wg.vars) ?_
      rintro v n' H' hk' ⟨rfl, rfl, rfl⟩
      by_cases hP : place g.vars g.vars[j] 0 = j
      · have hnm' : ∀ (i : Nat) (h : i < g.vars.length), i < j + 1 → NB g.vars[i] ∧ place g.vars g.vars[i] 0 = i := fun i h hi => by
          by_cases hij : i = j
          · subst hij; exact ⟨hnb rfl, hP⟩
          · exact hnm i h (by omega)
        simp only [SS, qx0, vun, simprocAttr, f1, f3, hP, ff_14]
        repeat (first | refine qqm rfl ?_ | ((first | refine qqr ?_ | refine qqt ?_); simp only [SS, qx0, vun, simprocAttr, f1, f3, hP, ff_14]))
        refine ih (g.vars.length - (j + 1)) (by omega) _ ⟨j + 1, rfl, rfl, f1, ?_, hjr, rfl, hnm'⟩
        simp only [packed, qv, Nat.reduceEqDiff, ↓reduceIte, f3, ff_14]
        rw [wrap_in (by omega) (by omega)]; rfl
      · simp only [SS, qx0, vun, simprocAttr, f1, f3, hP, ff_14]
        repeat (first | refine qqm rfl ?_ | ((first | refine qqr ?_ | refine qqt ?_); simp only [SS, qx0, vun, simprocAttr, f1, f3, hP, ff_14]))
        exact WK.retNil (bad _ _ _ rfl (Kp.refl _ _))
  · replace hnm := fun i h => hnm i h (by omega)
    repeat (first | refine qqm rfl ?_ | ((first | refine qqr ?_ | refine qqt ?_); simp only [SS, qx0, vun, simprocAttr, f1, f3, hb, gc_0, gc_1, gc_2, hjr, ff_14]))
    clear ih f3
    refine WK.loop (fun k s => ∃ j, s.n = n + 1 ∧ s.H = H' ∧ s.f 1 = .pointer (some ⟨n, 0, none⟩) ∧ s.f 4 = .int .i64 (j : Nat) ∧ j ≤ g.terms.length ∧ k = g.terms.length - j ∧ ∀ (i : Nat) (h : i < g.terms.length), i < j → QB g.terms[i] ∧ ∀ (q : Nat) (hq : q < g.terms.length), i = q + 1 → Op.bytesLess g.terms[q].toList g.terms[i].toList = true) g.terms.length ?_ ?_
    · exact ⟨0, rfl, rfl, f1, rfl, Nat.zero_le _, rfl, fun _ _ h => absurd h (Nat.not_lt_zero _)⟩
    rintro kk ⟨f, n', H'⟩ ⟨j, rfl, rfl, f1, f4, hj, rfl, hqt⟩ ih
    simp only at f1 f4 ih hb hw1 ht1 hv1 hr1 hk bad
    by_cases hjr : j < g.terms.length
    · obtain ⟨x, k, cs, ty, own, rfl, hx, e⟩ := ht1.at hjr
      have hsz := wg.size g.terms[j] (List.mem_append_left _ (List.getElem_mem hjr))
      repeat (first | refine qqm rfl ?_ | ((first | refine qqr ?_ | refine qqt ?_); simp only [SS, qx0, vun, simprocAttr, f1, f4, hb, gc_0, gc_1, gc_2, hjr, hx, e, ff_14]))
      refine AtCall.by (isQuote_gives _ hsz _ _) ?_
      rintro v n' H' hk' ⟨⟨t, rfl, hqb⟩, rfl, rfl⟩
      cases t
      · simp only [SS, qx0, vun, simprocAttr, hb, hx, f1, f4, ff_14]
        repeat (first | refine qqm rfl ?_ | ((first | refine qqr ?_ | refine qqt ?_); simp only [SS, qx0, vun, simprocAttr, hb, hx, f1, f4, ff_14]))
        exact WK.retNil (bad _ _ _ rfl (Kp.refl _ _))
      · by_cases hj0 : (0 : Int) < j
        · have hw' : IntKind.i64.wrap ((j : Int) - 1) = ((j - 1 : Nat) : Int) := by rw [wrap_in (by omega) (by omega)]; omega
          have hj' : j - 1 < g.terms.length := by omega
          obtain ⟨x', k', cs', ty', own', e', hx', e2⟩ := ht1.at hj'
          cases e'
          rw [hx] at hx'
          cases hx'
          by_cases hL : (!Op.bytesLess g.terms[j - 1].toList g.terms[j].toList) = true
          · simp only [SS, qx0, vun, simprocAttr, f1, f4, hb, gc_0, gc_1, gc_2, hjr, hx, e, hj0, hw', hj', e2, hL, ff_14]
            repeat (first | refine qqm rfl ?_ | ((first | refine qqr ?_ | refine qqt ?_); simp only [SS, qx0, vun, simprocAttr, f1, f4, hL, ff_14]))
            exact WK.retNil (bad _ _ _ rfl (Kp.refl _ _))
          · have hL : (!Op.bytesLess g.terms[j - 1].toList g.terms[j].toList) = false := by simpa using hL
            have hqt' : ∀ (i : Nat) (h : i < g.terms.length), i < j + 1 → QB g.terms[i] ∧ ∀ (q : Nat) (hq : q < g.terms.length), i = q + 1 → Op.bytesLess g.terms[q].toList g.terms[i].toList = true := fun i h hi => by
              by_cases hij : i = j
              · subst hij
                refine ⟨hqb rfl, fun q hq hiq => ?_⟩
                subst hiq
                simpa using hL
              · exact hqt i h (by omega)
            simp only [SS, qx0, vun, simprocAttr, f1, f4, hb, gc_0, gc_1, gc_2, hjr, hx, e, hj0, hw', hj', e2, hL, ff_14]
            repeat (first | refine qqm rfl ?_ | ((first | refine qqr ?_ | refine qqt ?_); simp only [SS, qx0, vun, simprocAttr, f1, f4, hL, ff_14]))
            refine ih (g.terms.length - (j + 1)) (by omega) _ ⟨j + 1, rfl, rfl, f1, ?_, hjr, rfl, hqt'⟩
            simp only [packed, qv, Nat.reduceEqDiff, ↓reduceIte, f4, ff_14]
            rw [wrap_in (by omega) (by omega)]; rfl
        · have hqt' : ∀ (i : Nat) (h : i < g.terms.length), i < j + 1 → QB g.terms[i] ∧ ∀ (q : Nat) (hq : q < g.terms.length), i = q + 1 → Op.bytesLess g.terms[q].toList g.terms[i].toList = true := fun i h hi => by
            by_cases hij : i = j
            · subst hij
              exact ⟨hqb rfl, fun q hq hiq => by omega⟩
            · exact hqt i h (by omega)
          simp only [SS, qx0, vun, simprocAttr, f1, f4, hb, gc_0, gc_1, gc_2, hjr, hx, e, hj0, ff_14]
          repeat (first | refine qqm rfl ?_ | ((first | refine qqr ?_ | refine qqt ?_); simp only [SS, qx0, vun, simprocAttr, f1, f4, ff_14]))
          refine ih (g.terms.length - (j + 1)) (by omega) _ ⟨j + 1, rfl, rfl, f1, ?_, hjr, rfl, hqt'⟩
          simp only [packed, qv, Nat.reduceEqDiff, ↓reduceIte, f4, ff_14]
          rw [wrap_in (by omega) (by omega)]; rfl
    · replace hqt := fun i h => hqt i h (by omega)
      repeat (first | refine qqm rfl ?_ | ((first | refine qqr ?_ | refine qqt ?_); simp only [SS, qx0, vun, simprocAttr, f1, f4, hb, gc_0, gc_1, gc_2, hjr, ff_14]))
      clear ih f4
      have hb0 := hb
      have hw0 := hw1
      have hg1 : RG H' (.agg (gcells pt pv pr g).toArray) g := ⟨pt, pv, pr, rfl, ht1, hv1, hr1⟩
      have kl : ∀ {n2 : Nat} {H2 : Heap}, Kp (n + 1) H' n2 H2 → H2 n = .cells (gcells pt pv pr g) 25 true ∧ WF n2 H2 ∧ RG H2 (.agg (gcells pt pv pr g).toArray) g :=
        fun k => ⟨(k.keep n (by omega)).trans hb, k.wf hw1, hg1.mono hw1 k⟩
      refine WK.loop (fun k s => ∃ j, Kp (n + 1) H' s.n s.H ∧ s.f 1 = .pointer (some ⟨n, 0, none⟩) ∧ s.f 5 = .int .i64 (j : Nat) ∧ j ≤ g.rules.length ∧ k = g.rules.length - j ∧ ∀ (i : Nat) (h : i < g.rules.length), i < j → RuleOK g i g.rules[i] ∧ RuleUn g i g.rules[i]) g.rules.length ?_ ?_
      · exact ⟨0, Kp.refl _ _, f1, rfl, Nat.zero_le _, rfl, fun i h hi => by omega⟩
      rintro kk ⟨f, n2, H2⟩ ⟨j, kp, f1, f5, hj, rfl, hru⟩ ih
      simp only at f1 f5 ih kp
      obtain ⟨hb2, hw2, hg2⟩ := kl kp
      by_cases hjr : j < g.rules.length
      · repeat (first | refine qqm rfl ?_ | ((first | refine qqr ?_ | refine qqt ?_); simp only [SS, qx0, vun, simprocAttr, f1, f5, hb2, gc_0, gc_1, gc_2, gc_len, gc_all, hjr, ff_14]))
        refine AtCall.by (rule_gives hw2 hg2 wg hjr) ?_
        rintro v n3 H3 hk3 ⟨t, rfl, hrule⟩
        have kp3 := kp.trans hk3
        cases t
        · simp only [SS, qx0, vun, simprocAttr, f1, f5, ff_14]
          repeat (first | refine qqm rfl ?_ | ((first | refine qqr ?_ | refine qqt ?_); simp only [SS, qx0, vun, simprocAttr, f1, f5, ff_14]))
          exact WK.retNil (bad _ _ _ rfl kp3)
        · simp only [SS, qx0, vun, simprocAttr, f1, f5, ff_14]
          repeat (first | refine qqm rfl ?_ | ((first | refine qqr ?_ | refine qqt ?_); simp only [SS, qx0, vun, simprocAttr, f1, f5, ff_14]))
          refine ih (g.rules.length - (j + 1)) (by omega) _ ⟨j + 1, kp3, f1, ?_, hjr, rfl, fun i h hi => ?_⟩
          · simp only [packed, qv, Nat.reduceEqDiff, ↓reduceIte, f5, ff_14]
            rw [wrap_in (by omega) (by omega)]; rfl
          · rcases Nat.lt_or_ge i j with h1 | h1
            · exact hru i h h1
            · have : i = j := by omega
              subst this; exact hrule rfl
      · repeat (first | refine qqm rfl ?_ | ((first | refine qqr ?_ | refine qqt ?_); simp only [SS, qx0, vun, simprocAttr, f1, f5, hb2, gc_0, gc_1, gc_2, hjr, ff_14]))
        clear ih f5 hw2 hg2 hb2
        refine WK.loop (fun k s => ∃ j, Kp (n + 1) H' s.n s.H ∧ s.f 1 = .pointer (some ⟨n, 0, none⟩) ∧ s.f 6 = .int .i64 (j : Nat) ∧ j ≤ g.vars.length ∧ k = g.vars.length - j ∧ ∀ i : Nat, i < j → countR g.rules i ≠ 0) g.vars.length ?_ ?_
        · exact ⟨0, kp, f1, rfl, Nat.zero_le _, rfl, fun i hi => by omega⟩
        rintro kk ⟨f, n2, H2⟩ ⟨j2, kp, f1, f6, hj2, rfl, hcn⟩ ih
        simp only at f1 f6 ih kp
        obtain ⟨hb2, hw2, hg2⟩ := kl kp
        by_cases hjv : j2 < g.vars.length
        · repeat (first | refine qqm rfl ?_ | ((first | refine qqr ?_ | refine qqt ?_); simp only [SS, qx0, vun, simprocAttr, f1, f6, hb2, gc_0, gc_1, gc_2, gc_len, gc_all, hjv, ff_14]))
          refine AtCall.by (count_gives hw2 hg2 wg) ?_
          rintro v n3 H3 hk3 rfl
          have kp3 := kp.trans hk3
          by_cases hz : ((countR g.rules j2 : Nat) : Int) = 0
          · simp only [SS, qx0, vun, simprocAttr, f1, f6, hz, ff_14]
            repeat (first | refine qqm rfl ?_ | ((first | refine qqr ?_ | refine qqt ?_); simp only [SS, qx0, vun, simprocAttr, f1, f6, ff_14]))
            exact WK.retNil (bad _ _ _ rfl kp3)
          · simp only [SS, qx0, vun, simprocAttr, f1, f6, hz, ff_14]
            repeat (first | refine qqm rfl ?_ | ((first | refine qqr ?_ | refine qqt ?_); simp only [SS, qx0, vun, simprocAttr, f1, f6, ff_14]))
            refine ih (g.vars.length - (j2 + 1)) (by omega) _ ⟨j2 + 1, kp3, f1, ?_, hjv, rfl, fun i hi => ?_⟩
            · simp only [packed, qv, Nat.reduceEqDiff, ↓reduceIte, f6, ff_14]
              rw [wrap_in (by omega) (by omega)]; rfl
            · rcases Nat.lt_or_ge i j2 with h1 | h1
              · exact hcn i h1
              · have : i = j2 := by omega
                subst this; omega
        · repeat (first | refine qqm rfl ?_ | ((first | refine qqr ?_ | refine qqt ?_); simp only [SS, qx0, vun, simprocAttr, f1, f6, hb2, gc_0, gc_1, gc_2, hjv, ff_14]))
          clear ih f6 hw2 hg2 hb2
          refine WK.loop (fun k s => ∃ j, Kp (n + 1) H' s.n s.H ∧ s.f 1 = .pointer (some ⟨n, 0, none⟩) ∧ s.f 7 = .int .i64 (j : Nat) ∧ j ≤ g.terms.length ∧ k = g.terms.length - j ∧ ∀ t : Nat, t < j → usesR g.rules (-(t : Int) - 1) = true) g.terms.length ?_ ?_
          · exact ⟨0, kp, f1, rfl, Nat.zero_le _, rfl, fun _ h => absurd h (Nat.not_lt_zero _)⟩
          rintro kk ⟨f, n2, H2⟩ ⟨j3, kp, f1, f7, hj3, rfl, hus⟩ ih
          simp only at f1 f7 ih kp
          obtain ⟨hb2, hw2, hg2⟩ := kl kp
          by_cases hjt : j3 < g.terms.length
          · have hn := bnot_i64 (n := (j3 : Int)) (by omega) (by omega)
            repeat (first | refine qqm rfl ?_ | ((first | refine qqr ?_ | refine qqt ?_); simp only [SS, qx0, vun, simprocAttr, f1, f7, hb2, gc_0, gc_1, gc_2, gc_len, gc_all, hjt, hn, ff_14]))
            refine AtCall.by (uses_gives hw2 hg2 wg) ?_
            rintro v n3 H3 hk3 rfl
            have kp3 := kp.trans hk3
            cases hu : usesR g.rules (-(j3 : Int) - 1)
            · simp only [SS, qx0, vun, simprocAttr, f1, f7, ff_14]
              repeat (first | refine qqm rfl ?_ | ((first | refine qqr ?_ | refine qqt ?_); simp only [SS, qx0, vun, simprocAttr, f1, f7, ff_14]))
              exact WK.retNil (bad _ _ _ rfl kp3)
            · have hus' : ∀ t : Nat, t < j3 + 1 → usesR g.rules (-(t : Int) - 1) = true := fun t ht => by
                by_cases e : t = j3
                · subst e; exact hu
                · exact hus t (by omega)
              simp only [SS, qx0, vun, simprocAttr, f1, f7, ff_14]
              repeat (first | refine qqm rfl ?_ | ((first | refine qqr ?_ | refine qqt ?_); simp only [SS, qx0, vun, simprocAttr, f1, f7, ff_14]))
              refine ih (g.terms.length - (j3 + 1)) (by omega) _ ⟨j3 + 1, kp3, f1, ?_, hjt, rfl, hus'⟩
              simp only [packed, qv, Nat.reduceEqDiff, ↓reduceIte, f7, ff_14]
              rw [wrap_in (by omega) (by omega)]; rfl
          · repeat (first | refine qqm rfl ?_ | ((first | refine qqr ?_ | refine qqt ?_); simp only [SS, qx0, vun, simprocAttr, f1, f7, hb2, gc_0, gc_1, gc_2, hjt, ff_14]))
            first | refine qqf ?_ ?_ | refine qqg ?_ ?_
            · exact (hk.trans kp).keep
            · exact ⟨true, rfl, fun _ => ⟨⟨by omega, by omega, by omega, by omega, fun i h => (hru i h (by omega)).1, fun v hv => hcn v (by omega)⟩, hnm, hqt, fun t ht => hus t (by omega), fun i h => (hru i h (by omega)).2⟩⟩
end Go.Proofs.YtjlgpanihjnaeaaGreatDoor
