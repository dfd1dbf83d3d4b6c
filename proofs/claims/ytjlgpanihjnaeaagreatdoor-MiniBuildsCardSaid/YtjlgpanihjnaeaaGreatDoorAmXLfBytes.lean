/- A part of a proof. Its conditions: none. -/
import Derived.Test.YtjlgpanihjnaeaaGreatDoorAmXLfNan
import Derived.Test.YtjlgpanihjnaeaaGreatDoorAmC
import Derived.Test.YtjlgpanihjnaeaaGreatDoorAmXFacts
import Derived.Test.YtjlgpanihjnaeaaGreatDoorAmD
set_option linter.all false
namespace Go.Proofs.YtjlgpanihjnaeaaGreatDoor
open Go.AM
set_option maxRecDepth 100000
theorem wrap_range(x:Int) : -9223372036854775808≤IntKind.wrap .i64 x∧IntKind.wrap .i64 x≤9223372036854775807:=by
 simp only[IntKind.wrap,IntKind.signed,IntKind.bits]
 simp
 omega
def toldB(b:Nat):Prop:=nanB b=true∨sameB b 9218868437227405312=true∨sameB b 18442240474082181120=true∨∃(m q a:Nat),m<1000000000000000∧Ieee.Format.div Ieee.double (FloatKind.nearest .f64 (m:Int)) 4696837146684686336=some q∧Ieee.Format.order Ieee.double q a=some .eq∧(a=b∨(a=b ^^^ 2 ^ 63∧Ieee.Format.order Ieee.double b 0=some .lt))
theorem told_gives(b:Nat)(hb:b<2 ^ 64)(n:Nat)(H:Heap):Gives Tryz.prog 44 [.float .f64 b] n H fun v n' H'=>(∃t,v=.bool t∧(t=true→toldB b))∧n'=n∧H'=H:=by
 refine Gives.of orders ok44 (Nat.le_of_ble_eq_true rfl) ?_
 repeat (first|refine qqn rfl ?_|((first|refine qqr ?_|refine qqt ?_);simp only[SS,qx8,vconv,vun,simprocAttr,ff_44])|(refine qqj ?_ ?_;focus (simp only[qqs,Nat.reduceEqDiff,↓reduceIte,ff_44];done))|(refine qqk ?_ ?_;focus (simp only[qqs,Nat.reduceEqDiff,↓reduceIte,ff_44];done)))
 refine AtCall.by (read_inf n H) ?_
 rintro v n' H' hk ⟨rfl,rfl,rfl⟩
 simp only[SS,qx8,vconv,vun,simprocAttr,ff_44]
 repeat (first|refine qqn rfl ?_|((first|refine qqr ?_|refine qqt ?_);simp only[SS,qx8,vconv,vun,simprocAttr,ff_44])|(refine qqj ?_ ?_;focus (simp only[qqs,Nat.reduceEqDiff,↓reduceIte,ff_44];done))|(refine qqk ?_ ?_;focus (simp only[qqs,Nat.reduceEqDiff,↓reduceIte,ff_44];done)))
 refine AtCall.by (read_ninf _ _) ?_
 rintro v n' H' hk ⟨rfl,rfl,rfl⟩
 simp only[SS,qx8,vconv,vun,simprocAttr,ff_44]
 repeat (first|refine qqn rfl ?_|((first|refine qqr ?_|refine qqt ?_);simp only[SS,qx8,vconv,vun,simprocAttr,ff_44])|(refine qqj ?_ ?_;focus (simp only[qqs,Nat.reduceEqDiff,↓reduceIte,ff_44];done))|(refine qqk ?_ ?_;focus (simp only[qqs,Nat.reduceEqDiff,↓reduceIte,ff_44];done)))
 refine AtCall.by (nan_gives b _ _) ?_
 rintro v n' H' hk ⟨rfl,rfl,rfl⟩
 cases h1:nanB b
 case true =>
  simp only[SS,qx8,vconv,vun,simprocAttr,ff_44]
  repeat (first|refine qqn rfl ?_|((first|refine qqr ?_|refine qqt ?_);simp only[SS,qx8,vconv,vun,simprocAttr,ff_44])|(refine qqj ?_ ?_;focus (simp only[qqs,Nat.reduceEqDiff,↓reduceIte,ff_44];done))|(refine qqk ?_ ?_;focus (simp only[qqs,Nat.reduceEqDiff,↓reduceIte,ff_44];done)))
  first|refine qqf ?_ ?_|refine qqg ?_ ?_
  ·exact fun _ _=>rfl
  ·simp only[packed,qv,Nat.reduceEqDiff,↓reduceIte,ff_44]
   refine⟨⟨_,rfl,fun _=>.inl h1⟩,?_⟩
   simp
 simp only[SS,qx8,vconv,vun,simprocAttr,ff_44]
 refine AtCall.by (sameB_gives b _ _ _) ?_
 rintro v n' H' hk ⟨rfl,rfl,rfl⟩
 cases h2:sameB b 9218868437227405312
 case true =>
  simp only[SS,qx8,vconv,vun,simprocAttr,ff_44]
  repeat (first|refine qqn rfl ?_|((first|refine qqr ?_|refine qqt ?_);simp only[SS,qx8,vconv,vun,simprocAttr,ff_44])|(refine qqj ?_ ?_;focus (simp only[qqs,Nat.reduceEqDiff,↓reduceIte,ff_44];done))|(refine qqk ?_ ?_;focus (simp only[qqs,Nat.reduceEqDiff,↓reduceIte,ff_44];done)))
  first|refine qqf ?_ ?_|refine qqg ?_ ?_
  ·exact fun _ _=>rfl
  ·simp only[packed,qv,Nat.reduceEqDiff,↓reduceIte,ff_44]
   refine⟨⟨_,rfl,fun _=>.inr (.inl h2)⟩,?_⟩
   simp
 simp only[SS,qx8,vconv,vun,simprocAttr,ff_44]
 refine AtCall.by (sameB_gives b _ _ _) ?_
 rintro v n' H' hk ⟨rfl,rfl,rfl⟩
 cases h3:sameB b 18442240474082181120
 case true =>
  simp only[SS,qx8,vconv,vun,simprocAttr,ff_44]
  repeat (first|refine qqn rfl ?_|((first|refine qqr ?_|refine qqt ?_);simp only[SS,qx8,vconv,vun,simprocAttr,ff_44])|(refine qqj ?_ ?_;focus (simp only[qqs,Nat.reduceEqDiff,↓reduceIte,ff_44];done))|(refine qqk ?_ ?_;focus (simp only[qqs,Nat.reduceEqDiff,↓reduceIte,ff_44];done)))
  first|refine qqf ?_ ?_|refine qqg ?_ ?_
  ·exact fun _ _=>rfl
  ·simp only[packed,qv,Nat.reduceEqDiff,↓reduceIte,ff_44]
   refine⟨⟨_,rfl,fun _=>.inr (.inr (.inl h3))⟩,?_⟩
   simp
 simp only[SS,qx8,vconv,vun,simprocAttr,ff_44]
 repeat (first|refine qqn rfl ?_|((first|refine qqr ?_|refine qqt ?_);simp only[SS,qx8,vconv,vun,simprocAttr,ff_44])|(refine qqj ?_ ?_;focus (simp only[qqs,Nat.reduceEqDiff,↓reduceIte,ff_44];done))|(refine qqk ?_ ?_;focus (simp only[qqs,Nat.reduceEqDiff,↓reduceIte,ff_44];done)))
 refine WK.cut (fun s=>∃a,s.n=n'∧s.H=H'∧s.f 7=.float .f64 a∧(Ieee.Format.order Ieee.double a 4741671816366391296=some .lt→(∀m e,Ieee.Format.read Ieee.double a=.number true m e→m=0)∧Ieee.Format.read Ieee.double a≠.infinity true)∧(a=b∨(a=b ^^^ 2 ^ 63∧Ieee.Format.order Ieee.double b 0=some .lt))) ?_ ?_
 ·by_cases h4:(FloatKind.f64.format.order b 0 == some .lt)=true
  ·repeat (first|refine qqn rfl ?_|((first|refine qqr ?_|refine qqt ?_);simp only[SS,qx8,vconv,vun,simprocAttr,h4,ff_44])|(refine qqj ?_ ?_;focus (simp only[qqs,Nat.reduceEqDiff,↓reduceIte,h4,ff_44];done))|(refine qqk ?_ ?_;focus (simp only[qqs,Nat.reduceEqDiff,↓reduceIte,h4,ff_44];done)))
   refine WK.skipNil ⟨rfl,b ^^^ 2 ^ 63,rfl,rfl,rfl,fun h=>neg_ok hb (by simpa [FloatKind.format] using h4) h,.inr ⟨rfl,by simpa [FloatKind.format] using h4⟩⟩
  ·repeat (first|refine qqn rfl ?_|((first|refine qqr ?_|refine qqt ?_);simp only[SS,qx8,vconv,vun,simprocAttr,h4,ff_44])|(refine qqj ?_ ?_;focus (simp only[qqs,Nat.reduceEqDiff,↓reduceIte,h4,ff_44];done))|(refine qqk ?_ ?_;focus (simp only[qqs,Nat.reduceEqDiff,↓reduceIte,h4,ff_44];done)))
   refine WK.skipNil ⟨rfl,b,rfl,rfl,rfl,fun h=>pos_ok (by simpa [FloatKind.format] using h4),.inl rfl⟩
 rintro⟨f,n',H'⟩ ⟨a,rfl,rfl,f7,ha,hab⟩
 simp only at f7
 by_cases h5:(FloatKind.f64.format.order a 4741671816366391296 == some .lt)=true
 ·have h5':Ieee.Format.order Ieee.double a 4741671816366391296=some .lt:=by simpa [FloatKind.format] using h5
  obtain⟨r1,r2,z,e1,e2,e3,e4⟩:=told_ok h5' (ha h5').1 (ha h5').2
  have e1:FloatKind.f64.format.mul a 4696837146684686336=some r1:=e1
  have e2:FloatKind.f64.format.add r1 4602678819172646912=some r2:=e2
  have e3:(FloatKind.f64.decode r2).toInt .zero=some z:=e3
  have e5:IntKind.i64.min≤z:=by show -9223372036854775808≤z;omega
  have e6:z≤IntKind.i64.max:=by show z≤9223372036854775807;omega
  repeat (first|refine qqn rfl ?_|((first|refine qqr ?_|refine qqt ?_);simp only[SS,qx8,vconv,vun,simprocAttr,f7,h5,e1,e2,e3,e5,e6,ff_44])|(refine qqj ?_ ?_;focus (simp only[qqs,Nat.reduceEqDiff,↓reduceIte,f7,h5,e1,e2,e3,e5,e6,ff_44];done))|(refine qqk ?_ ?_;focus (simp only[qqs,Nat.reduceEqDiff,↓reduceIte,f7,h5,e1,e2,e3,e5,e6,ff_44];done)))
  refine WK.loop (fun k s=>∃d:Int,s.n=n'∧s.H=H'∧s.f 7=.float .f64 a∧s.f 8=.int .i64 z∧s.f 9=.int .i64 d ∧ -2≤d∧d≤3∧(k:Int)=3 - d) 5 ?_ ?_
  ·exact⟨-2,rfl,rfl,f7,rfl,rfl,by omega,by omega,by omega⟩
  rintro k ⟨f,n',H'⟩ ⟨d,rfl,rfl,f7,f8,f9,d1,d2,hk⟩ ih
  simp only at f7 f8 f9 ih
  by_cases g1:d≤2
  ·by_cases g2:0≤IntKind.i64.wrap (z+d)
   ·by_cases g3:IntKind.i64.wrap (z+d)<1000000000000000
    ·obtain⟨q,hq⟩:=div_ok (IntKind.i64.wrap (z+d)) (by have:=wrap_range (z+d);omega)
     have hq:FloatKind.f64.format.div (FloatKind.f64.nearest (IntKind.i64.wrap (z+d))) 4696837146684686336=some q:=hq
     by_cases g4:(FloatKind.f64.format.order q a == some .eq)=true
     ·repeat (first|refine qqn rfl ?_|((first|refine qqr ?_|refine qqt ?_);simp only[SS,qx8,vconv,vun,simprocAttr,f7,f8,f9,g1,g2,g3,hq,g4,ff_44])|(refine qqj ?_ ?_;focus (simp only[qqs,Nat.reduceEqDiff,↓reduceIte,f7,f8,f9,g1,g2,g3,hq,g4,ff_44];done))|(refine qqk ?_ ?_;focus (simp only[qqs,Nat.reduceEqDiff,↓reduceIte,f7,f8,f9,g1,g2,g3,hq,g4,ff_44];done)))
      first|refine qqf ?_ ?_|refine qqg ?_ ?_
      ·exact fun _ _=>rfl
      ·simp only[packed,qv,Nat.reduceEqDiff,↓reduceIte,ff_44]
       refine⟨⟨_,rfl,fun _=>.inr (.inr (.inr ⟨(IntKind.i64.wrap (z+d)).toNat,q,a,by omega,by rw[Int.toNat_of_nonneg g2];exact hq,by simpa [FloatKind.format] using g4,hab⟩))⟩,?_⟩
       simp
     ·repeat (first|refine qqn rfl ?_|((first|refine qqr ?_|refine qqt ?_);simp only[SS,qx8,vconv,vun,simprocAttr,f7,f8,f9,g1,g2,g3,hq,g4,ff_44])|(refine qqj ?_ ?_;focus (simp only[qqs,Nat.reduceEqDiff,↓reduceIte,f7,f8,f9,g1,g2,g3,hq,g4,ff_44];done))|(refine qqk ?_ ?_;focus (simp only[qqs,Nat.reduceEqDiff,↓reduceIte,f7,f8,f9,g1,g2,g3,hq,g4,ff_44];done)))
      refine ih (k - 1) (by omega) _ ⟨d+1,rfl,rfl,f7,f8,?_,by omega,by omega,by omega⟩
      simp only[packed,qv,Nat.reduceEqDiff,↓reduceIte,ff_44]
      rw[wrap_in (by omega) (by omega)]
    ·repeat (first|refine qqn rfl ?_|((first|refine qqr ?_|refine qqt ?_);simp only[SS,qx8,vconv,vun,simprocAttr,f7,f8,f9,g1,g2,g3,ff_44])|(refine qqj ?_ ?_;focus (simp only[qqs,Nat.reduceEqDiff,↓reduceIte,f7,f8,f9,g1,g2,g3,ff_44];done))|(refine qqk ?_ ?_;focus (simp only[qqs,Nat.reduceEqDiff,↓reduceIte,f7,f8,f9,g1,g2,g3,ff_44];done)))
     refine ih (k - 1) (by omega) _ ⟨d+1,rfl,rfl,f7,f8,?_,by omega,by omega,by omega⟩
     simp only[packed,qv,Nat.reduceEqDiff,↓reduceIte,ff_44]
     rw[wrap_in (by omega) (by omega)]
   ·repeat (first|refine qqn rfl ?_|((first|refine qqr ?_|refine qqt ?_);simp only[SS,qx8,vconv,vun,simprocAttr,f7,f8,f9,g1,g2,ff_44])|(refine qqj ?_ ?_;focus (simp only[qqs,Nat.reduceEqDiff,↓reduceIte,f7,f8,f9,g1,g2,ff_44];done))|(refine qqk ?_ ?_;focus (simp only[qqs,Nat.reduceEqDiff,↓reduceIte,f7,f8,f9,g1,g2,ff_44];done)))
    refine ih (k - 1) (by omega) _ ⟨d+1,rfl,rfl,f7,f8,?_,by omega,by omega,by omega⟩
    simp only[packed,qv,Nat.reduceEqDiff,↓reduceIte,ff_44]
    rw[wrap_in (by omega) (by omega)]
  ·repeat (first|refine qqn rfl ?_|((first|refine qqr ?_|refine qqt ?_);simp only[SS,qx8,vconv,vun,simprocAttr,f7,f8,f9,g1,ff_44])|(refine qqj ?_ ?_;focus (simp only[qqs,Nat.reduceEqDiff,↓reduceIte,f7,f8,f9,g1,ff_44];done))|(refine qqk ?_ ?_;focus (simp only[qqs,Nat.reduceEqDiff,↓reduceIte,f7,f8,f9,g1,ff_44];done)))
   first|refine qqf ?_ ?_|refine qqg ?_ ?_
   ·exact fun _ _=>rfl
   ·simp only[packed,qv,Nat.reduceEqDiff,↓reduceIte,ff_44]
    refine⟨⟨_,rfl,fun h=>by cases h⟩,?_⟩
    simp
 ·repeat (first|refine qqn rfl ?_|((first|refine qqr ?_|refine qqt ?_);simp only[SS,qx8,vconv,vun,simprocAttr,f7,h5,ff_44])|(refine qqj ?_ ?_;focus (simp only[qqs,Nat.reduceEqDiff,↓reduceIte,f7,h5,ff_44];done))|(refine qqk ?_ ?_;focus (simp only[qqs,Nat.reduceEqDiff,↓reduceIte,f7,h5,ff_44];done)))
  first|refine qqf ?_ ?_|refine qqg ?_ ?_
  ·exact fun _ _=>rfl
  ·simp only[packed,qv,Nat.reduceEqDiff,↓reduceIte,ff_44]
   refine⟨⟨_,rfl,fun h=>by cases h⟩,?_⟩
   simp
end Go.Proofs.YtjlgpanihjnaeaaGreatDoor

namespace Go.Proofs.YtjlgpanihjnaeaaGreatDoor
open Go.AM
set_option maxRecDepth 100000
def less:List Int→List Int→Bool
 | a::x,b::y=>if a=b then less x y else decide (a<b)
 | x,y=>decide (x.length<y.length)
theorem less_gives{pa pb:Option Addr}{a b:List Int}{n:Nat}{H:Heap}(ha:RA (Value.int .i64) H pa a)(hb:RA (Value.int .i64) H pb b)(hal:a.length≤maxL) :
  Gives Tryz.prog 21 [.slice pa a.length a.length,.slice pb b.length b.length] n H fun v n' H'=>v=.bool (less a b)∧n'=n∧H'=H:=by
 refine Gives.of orders ok21 (Nat.le_of_ble_eq_true rfl) ?_
 repeat (first|refine qqm rfl ?_|((first|refine qqr ?_|refine qqt ?_);simp only[SS,qx45,simprocAttr,ff_21]))
 refine WK.loop (fun k s=>∃i,s.n=n∧s.H=H∧s.f 0=.slice pa a.length a.length∧s.f 1=.slice pb b.length b.length∧s.f 5=.int .i64 (i:Nat)∧i≤a.length∧i≤b.length∧k=a.length - i∧less (a.drop i) (b.drop i)=less a b) a.length ?_ ?_
 ·exact⟨0,rfl,rfl,rfl,rfl,rfl,Nat.zero_le _,Nat.zero_le _,rfl,rfl⟩
 rintro k ⟨f,n',H'⟩ ⟨i,rfl,rfl,h0,h1,h5,hi1,hi2,rfl,hl⟩ ih
 simp only at h0 h1 h5 ih ha hb
 by_cases hia:i<a.length
 ·by_cases hib:i<b.length
  ·obtain⟨x,k,cs,ty,own,rfl,hx,ha'⟩:=ha (by intro e;simp[e]at hia)
   obtain⟨y,l,ds,tz,pwn,rfl,hy,hb'⟩:=hb (by intro e;simp[e]at hib)
   have e1:=ha' i _ (List.getElem?_eq_getElem hia)
   have e2:=hb' i _ (List.getElem?_eq_getElem hib)
   have d1:a.drop i=a[i]::a.drop (i+1):=List.drop_eq_getElem_cons hia
   have d2:b.drop i=b[i]::b.drop (i+1):=List.drop_eq_getElem_cons hib
   by_cases he:a[i]=b[i]
   ·repeat (first|refine qqm rfl ?_|((first|refine qqr ?_|refine qqt ?_);simp only[SS,qx45,simprocAttr,h0,h1,h5,hia,hib,hx,hy,e1,e2,he,ff_21]))
    refine ih (a.length - (i+1)) (by omega) _ ⟨i+1,rfl,rfl,h0,h1,?_,hia,hib,rfl,?_⟩
    ·simp only[packed,qv,Nat.reduceEqDiff,↓reduceIte,ff_21]
     unfold maxL at hal;rw[wrap_in (by omega) (by omega)];rfl
    ·rw[←hl,d1,d2,less,if_pos he]
   ·repeat (first|refine qqm rfl ?_|((first|refine qqr ?_|refine qqt ?_);simp only[SS,qx45,simprocAttr,h0,h1,h5,hia,hib,hx,hy,e1,e2,he,ff_21]))
    first|refine qqf ?_ ?_|refine qqg ?_ ?_
    ·exact fun _ _=>rfl
    ·simp only[packed,qv,Nat.reduceEqDiff,↓reduceIte,ff_21]
     rw[←hl,d1,d2,less,if_neg he];trivial
  ·repeat (first|refine qqm rfl ?_|((first|refine qqr ?_|refine qqt ?_);simp only[SS,qx45,simprocAttr,h0,h1,h5,hia,hib,ff_21]))
   first|refine qqf ?_ ?_|refine qqg ?_ ?_
   ·exact fun _ _=>rfl
   ·simp only[packed,qv,Nat.reduceEqDiff,↓reduceIte,ff_21]
    rw[←hl,List.drop_eq_nil_of_le (show b.length≤i by omega)]
    simp[less];omega
 ·repeat (first|refine qqm rfl ?_|((first|refine qqr ?_|refine qqt ?_);simp only[SS,qx45,simprocAttr,h0,h1,h5,hia,ff_21]))
  first|refine qqf ?_ ?_|refine qqg ?_ ?_
  ·exact fun _ _=>rfl
  ·simp only[packed,qv,Nat.reduceEqDiff,↓reduceIte,ff_21]
   rw[←hl,List.drop_eq_nil_of_le (show a.length≤i by omega)]
   simp[less];omega
def same(a b:List Int):Bool:=!less a b && !less b a
theorem same_gives{pa pb:Option Addr}{a b:List Int}{n:Nat}{H:Heap}(ha:RA (Value.int .i64) H pa a)(hb:RA (Value.int .i64) H pb b)(hal:a.length≤maxL)(hbl:b.length≤maxL) :
  Gives Tryz.prog 12 [.slice pa a.length a.length,.slice pb b.length b.length] n H fun v n' H'=>v=.bool (same a b)∧n'=n∧H'=H:=by
 refine Gives.of orders ok12 (Nat.le_of_ble_eq_true rfl) ?_
 repeat (first|refine qqm rfl ?_|((first|refine qqr ?_|refine qqt ?_);simp only[SS,qg0,vun,tpick,simprocAttr]))
 refine AtCall.by (less_gives ha hb hal) ?_
 rintro v n' H' hk ⟨rfl,rfl,rfl⟩
 cases h1:less a b
 ·simp only[SS,qg0,vun,tpick,simprocAttr]
  refine AtCall.by (less_gives hb ha hbl) ?_
  rintro v n' H' hk ⟨rfl,rfl,rfl⟩
  simp only[SS,qg0,vun,tpick,simprocAttr]
  repeat (first|refine qqm rfl ?_|((first|refine qqr ?_|refine qqt ?_);simp only[SS,qg0,vun,tpick,simprocAttr]))
  first|refine qqf ?_ ?_|refine qqg ?_ ?_
  ·exact fun _ _=>rfl
  ·simp only[packed,qv,Nat.reduceEqDiff,↓reduceIte,same,h1]
   simp
 ·simp only[SS,qg0,vun,tpick,simprocAttr]
  repeat (first|refine qqm rfl ?_|((first|refine qqr ?_|refine qqt ?_);simp only[SS,qg0,vun,tpick,simprocAttr]))
  first|refine qqf ?_ ?_|refine qqg ?_ ?_
  ·exact fun _ _=>rfl
  ·simp only[packed,qv,Nat.reduceEqDiff,↓reduceIte,same,h1]
   simp
end Go.Proofs.YtjlgpanihjnaeaaGreatDoor

namespace Go.Proofs.YtjlgpanihjnaeaaGreatDoor
open Go.AM
set_option maxRecDepth 100000
structure RuleOK(g:Gram)(i:Nat)(r:GRule):Prop where
 left0:0≤r.left
 left1:r.left<g.vars.length
 len:r.right.length≤24
 sym:∀s∈r.right,s<g.vars.length∧(s<0 → -s - 1<g.terms.length)
 up:∀q,i=q+1→∀r',g.rules[q]? = some r'→r'.left≤r.left
 told:toldB r.weight
def RuleUn(g:Gram)(i:Nat)(r:GRule):Prop:=∀(q:Nat) (hq:q<g.rules.length),q<i→g.rules[q].left=r.left→same g.rules[q].right r.right=false
set_option maxHeartbeats 4000000 in
theorem rule_gives {v : Value} {g : Gram} {i : Nat} {n : Nat} {H : Heap} (hw : WF n H) (hg : RG H v g) (wg : WG g) (hi : i < g.rules.length) :
    Gives Tryz.prog 25 [v, .int .i64 i] n H fun v _ _ => ∃ t, v = .bool t ∧ (t = true → RuleOK g i g.rules[i] ∧ RuleUn g i g.rules[i]) := by
  obtain ⟨pt, pv, pr, rfl, ht, hv, hr⟩ := hg
  refine Gives.of orders ok25 (Nat.le_of_ble_eq_true rfl) ?_
  have hk := Kp.new n H (.cells (gcells pt pv pr g) 25 true)
  replace hr := hr.mono hw hk
  have hb := hset_at H n (.cells (gcells pt pv pr g) 25 true)
  repeat refine qqn rfl ?_
  (refine qqr ?_; simp only [SS, qx3, vun, simprocAttr, box_cells, box_one, ff_25])
  repeat refine qqn rfl ?_
  have hw1 := hk.wf hw
  generalize hset H n (.cells (gcells pt pv pr g) 25 true) = H1 at *
  obtain ⟨x, k, cs, ty, own, p, rfl, hx, c0, c1, c2, hp⟩ := hr.at hi
  have c3 := take3 c0 c1 c2
  have c4 := len3 c2
  (refine qqr ?_; simp only [SS, qx3, vun, simprocAttr, hb, gc_2, hi, hx, c3, c4, ff_25])
  repeat refine qqn rfl ?_
  obtain ⟨hrl, hri⟩ := wg.right _ (List.getElem_mem hi)
  have hll := wg.left _ (List.getElem_mem hi)
  have hww := wg.weight _ (List.getElem_mem hi)
  have hgl := wg.rules
  have hvl := wg.vars
  have htl := wg.terms
  unfold maxL at hrl hgl hvl htl
  unfold inI at hll
  have k2 := Kp.new (n + 1) H1 (.cells [.int .i64 g.rules[i].left, .slice p g.rules[i].right.length g.rules[i].right.length, .float .f64 g.rules[i].weight] 63 true)
  have ho := hset_at H1 (n + 1) (.cells [.int .i64 g.rules[i].left, .slice p g.rules[i].right.length g.rules[i].right.length, .float .f64 g.rules[i].weight] 63 true)
  replace hb := (k2.keep n (by omega)).trans hb
  replace hr := hr.mono hw1 k2
  replace hp := hp.mono hw1 k2
  replace hx : hset H1 (n + 1) (.cells [.int .i64 g.rules[i].left, .slice p g.rules[i].right.length g.rules[i].right.length, .float .f64 g.rules[i].weight] 63 true) x = .cells cs ty own :=
    (k2.keep x (by
      apply Classical.byContradiction
      intro hc
      rw [hw1 x (by omega)] at hx; cases hx)).trans hx
  replace hk : ∀ y, y < n → hset H1 (n + 1) (.cells [.int .i64 g.rules[i].left, .slice p g.rules[i].right.length g.rules[i].right.length, .float .f64 g.rules[i].weight] 63 true) y = H y :=
    fun y hy => (k2.keep y (by omega)).trans (hk.keep y hy)
  generalize hset H1 (n + 1) (.cells [.int .i64 g.rules[i].left, .slice p g.rules[i].right.length g.rules[i].right.length, .float .f64 g.rules[i].weight] 63 true) = H2 at *
  refine WK.unseq ?_
  refine WK.cutRet (fun s => s.n = n + 1 + 1 ∧ s.H = H2 ∧ s.f 1 = .int .i64 i ∧ s.f 2 = .pointer (some ⟨n, 0, none⟩) ∧ s.f 5 = .pointer (some ⟨n + 1, 0, none⟩) ∧ 0 ≤ g.rules[i].left ∧ g.rules[i].left < g.vars.length ∧ g.rules[i].right.length ≤ 24 ∧ (∀ q, i = q + 1 → ∀ r', g.rules[q]? = some r' → r'.left ≤ g.rules[i].left) ∧ toldB g.rules[i].weight) ?_ ?_
  · have bad : ∀ f : Fr, f 4 = .bool false → Fin Tryz.prog Tryz.f25.results.toList n H (fun v _ _ => ∃ t, v = .bool t ∧ (t = true → RuleOK g i g.rules[i] ∧ RuleUn g i g.rules[i])) .ret ⟨f, n + 1 + 1, H2⟩ :=
      fun f hf => ⟨Or.inr rfl, [f 4], rfl, hk, false, hf, fun h => by cases h⟩
    by_cases hA : g.rules[i].left < 0
    · repeat (first | refine qqm rfl ?_ | ((first | refine qqr ?_ | refine qqt ?_); simp only [SS, qx3, vun, simprocAttr, hb, ho, gc_1, gc_2, hA, ff_25]))
      exact WK.retNil (Or.inr ⟨rfl, bad _ rfl⟩)
    by_cases hB : (g.vars.length : Int) ≤ g.rules[i].left
    · repeat (first | refine qqm rfl ?_ | ((first | refine qqr ?_ | refine qqt ?_); simp only [SS, qx3, vun, simprocAttr, hb, ho, gc_1, gc_2, hA, hB, ff_25]))
      exact WK.retNil (Or.inr ⟨rfl, bad _ rfl⟩)
    by_cases hC : (0 : Int) < i
    · have hw' : IntKind.i64.wrap ((i : Int) - 1) = ((i - 1 : Nat) : Int) := by rw [wrap_in (by omega) (by omega)]; omega
      have hi' : i - 1 < g.rules.length := by omega
      obtain ⟨x', k', cs', ty', own', p', e', hx', d0, d1, d2, hp'⟩ := hr.at hi'
      cases e'
      rw [hx] at hx'
      cases hx'
      by_cases hD : g.rules[i].left < g.rules[i - 1].left
      · repeat (first | refine qqm rfl ?_ | ((first | refine qqr ?_ | refine qqt ?_); simp only [SS, qx3, vun, simprocAttr, hb, ho, hx, d0, gc_1, gc_2, hA, hB, hC, hw', hi', hD, ff_25]))
        exact WK.retNil (Or.inr ⟨rfl, bad _ rfl⟩)
      · by_cases hE : (24 : Int) < g.rules[i].right.length
        · repeat (first | refine qqm rfl ?_ | ((first | refine qqr ?_ | refine qqt ?_); simp only [SS, qx3, vun, simprocAttr, hb, ho, hx, d0, gc_1, gc_2, hA, hB, hC, hw', hi', hD, hE, ff_25]))
          exact WK.retNil (Or.inr ⟨rfl, bad _ rfl⟩)
        · repeat (first | refine qqm rfl ?_ | ((first | refine qqr ?_ | refine qqt ?_); simp only [SS, qx3, vun, simprocAttr, hb, ho, hx, d0, gc_1, gc_2, hA, hB, hC, hw', hi', hD, hE, ff_25]))
          refine AtCall.by (told_gives _ hww _ _) ?_
          rintro v n' H' hk' ⟨⟨t, rfl, htold⟩, rfl, rfl⟩
          cases t
          · simp only [SS, qx3, vun, simprocAttr, ff_25]
            repeat (first | refine qqm rfl ?_ | ((first | refine qqr ?_ | refine qqt ?_); simp only [SS, qx3, vun, simprocAttr, ff_25]))
            exact WK.retNil (Or.inr ⟨rfl, bad _ rfl⟩)
          · simp only [SS, qx3, vun, simprocAttr, ff_25]
            repeat (first | refine qqm rfl ?_ | ((first | refine qqr ?_ | refine qqt ?_); simp only [SS, qx3, vun, simprocAttr, ff_25]))
            exact WK.skipNil (Or.inl ⟨rfl, rfl, rfl, rfl, rfl, rfl, by omega, by omega, by omega, fun q hq r' hr' => by
              subst hq
              have hD' : ¬ g.rules[q + 1].left < (g.rules[q]'(by omega)).left := hD
              rw [List.getElem?_eq_getElem (by omega)] at hr'
              cases hr'
              omega, htold rfl⟩)
    · by_cases hE : (24 : Int) < g.rules[i].right.length
      · repeat (first | refine qqm rfl ?_ | ((first | refine qqr ?_ | refine qqt ?_); simp only [SS, qx3, vun, simprocAttr, hb, ho, gc_1, gc_2, hA, hB, hC, hE, ff_25]))
        exact WK.retNil (Or.inr ⟨rfl, bad _ rfl⟩)
      · repeat (first | refine qqm rfl ?_ | ((first | refine qqr ?_ | refine qqt ?_); simp only [SS, qx3, vun, simprocAttr, hb, ho, gc_1, gc_2, hA, hB, hC, hE, ff_25]))
        refine AtCall.by (told_gives _ hww _ _) ?_
        rintro v n' H' hk' ⟨⟨t, rfl, htold⟩, rfl, rfl⟩
        cases t
        · simp only [SS, qx3, vun, simprocAttr, ff_25]
          repeat (first | refine qqm rfl ?_ | ((first | refine qqr ?_ | refine qqt ?_); simp only [SS, qx3, vun, simprocAttr, ff_25]))
          exact WK.retNil (Or.inr ⟨rfl, bad _ rfl⟩)
        · simp only [SS, qx3, vun, simprocAttr, ff_25]
          repeat (first | refine qqm rfl ?_ | ((first | refine qqr ?_ | refine qqt ?_); simp only [SS, qx3, vun, simprocAttr, ff_25]))
          exact WK.skipNil (Or.inl ⟨rfl, rfl, rfl, rfl, rfl, rfl, by omega, by omega, by omega, fun q hq => by omega, htold rfl⟩)
  rintro ⟨f, n', H'⟩ ⟨rfl, rfl, f1, f2, f5, q1, q2, q3, q4, q5⟩
  simp only at f1 f2 f5
  have bad : ∀ f : Fr, f 4 = .bool false → Fin Tryz.prog Tryz.f25.results.toList n H (fun v _ _ => ∃ t, v = .bool t ∧ (t = true → RuleOK g i g.rules[i] ∧ RuleUn g i g.rules[i])) .ret ⟨f, n + 1 + 1, H'⟩ :=
    fun f hf => ⟨Or.inr rfl, [f 4], rfl, hk, false, hf, fun h => by cases h⟩
  repeat (first | refine qqm rfl ?_ | ((first | refine qqr ?_ | refine qqt ?_); simp only [SS, qx3, vun, simprocAttr, f1, f2, f5, ff_25]))
  refine WK.loop (fun k s => ∃ j, s.n = n + 1 + 1 ∧ s.H = H' ∧ s.f 1 = .int .i64 i ∧ s.f 2 = .pointer (some ⟨n, 0, none⟩) ∧ s.f 5 = .pointer (some ⟨n + 1, 0, none⟩) ∧ s.f 6 = .int .i64 (j : Nat) ∧ j ≤ g.rules[i].right.length ∧ k = g.rules[i].right.length - j ∧
    ∀ s ∈ g.rules[i].right.take j, s < g.vars.length ∧ (s < 0 → -s - 1 < g.terms.length)) g.rules[i].right.length ?_ ?_
  · exact ⟨0, rfl, rfl, f1, f2, f5, rfl, Nat.zero_le _, rfl, by simp⟩
  rintro kk ⟨f', n', H'⟩ ⟨j, rfl, rfl, f1, f2, f5, f6, hj, rfl, hsym⟩ ih
  simp only at f1 f2 f5 f6 ih hb ho hr hp hx hk bad
  by_cases hjr : j < g.rules[i].right.length
  · obtain ⟨z, kz, ds, tz, oz, rfl, hz, e⟩ := hp.at hjr
    have hsr := hri _ (List.getElem_mem hjr)
    unfold inI at hsr
    have htj : g.rules[i].right.take (j + 1) = g.rules[i].right.take j ++ [g.rules[i].right[j]] := List.take_succ_eq_append_getElem hjr
    have hn := bnot_i64 hsr.1 hsr.2
    by_cases hA : (g.vars.length : Int) ≤ g.rules[i].right[j]
    · repeat (first | refine qqm rfl ?_ | ((first | refine qqr ?_ | refine qqt ?_); simp only [SS, qx3, vun, simprocAttr, f1, f2, f5, f6, hb, ho, gc_0, gc_1, gc_2, hjr, hz, e, hA, ff_25]))
      exact WK.retNil (bad _ rfl)
    by_cases hB : g.rules[i].right[j] < 0
    · by_cases hC : (g.terms.length : Int) ≤ -g.rules[i].right[j] - 1
      · repeat (first | refine qqm rfl ?_ | ((first | refine qqr ?_ | refine qqt ?_); simp only [SS, qx3, vun, simprocAttr, f1, f2, f5, f6, hb, ho, gc_0, gc_1, gc_2, hjr, hz, e, hA, hB, hn, hC, ff_25]))
        exact WK.retNil (bad _ rfl)
      · repeat (first | refine qqm rfl ?_ | ((first | refine qqr ?_ | refine qqt ?_); simp only [SS, qx3, vun, simprocAttr, f1, f2, f5, f6, hb, ho, gc_0, gc_1, gc_2, hjr, hz, e, hA, hB, hn, hC, ff_25]))
        refine ih (g.rules[i].right.length - (j + 1)) (by omega) _ ⟨j + 1, rfl, rfl, f1, f2, f5, ?_, hjr, rfl, ?_⟩
        · simp only [packed, qv, Nat.reduceEqDiff, ↓reduceIte, f6, ff_25]
          rw [wrap_in (by omega) (by omega)]; rfl
        · intro s hs
          rw [htj, List.mem_append] at hs
          rcases hs with hs | hs
          · exact hsym s hs
          · simp at hs; subst hs; exact ⟨by omega, fun _ => by omega⟩
    · repeat (first | refine qqm rfl ?_ | ((first | refine qqr ?_ | refine qqt ?_); simp only [SS, qx3, vun, simprocAttr, f1, f2, f5, f6, hb, ho, gc_0, gc_1, gc_2, hjr, hz, e, hA, hB, ff_25]))
      refine ih (g.rules[i].right.length - (j + 1)) (by omega) _ ⟨j + 1, rfl, rfl, f1, f2, f5, ?_, hjr, rfl, ?_⟩
      · simp only [packed, qv, Nat.reduceEqDiff, ↓reduceIte, f6, ff_25]
        rw [wrap_in (by omega) (by omega)]; rfl
      · intro s hs
        rw [htj, List.mem_append] at hs
        rcases hs with hs | hs
        · exact hsym s hs
        · simp at hs; subst hs; exact ⟨by omega, fun _ => by omega⟩
  · repeat (first | refine qqm rfl ?_ | ((first | refine qqr ?_ | refine qqt ?_); simp only [SS, qx3, vun, simprocAttr, f1, f2, f5, f6, hb, ho, gc_0, gc_1, gc_2, hjr, ff_25]))
    rw [List.take_of_length_le (by omega)] at hsym
    refine WK.loop (fun k s => ∃ j, s.n = n + 1 + 1 ∧ s.H = H' ∧ s.f 1 = .int .i64 i ∧ s.f 2 = .pointer (some ⟨n, 0, none⟩) ∧ s.f 5 = .pointer (some ⟨n + 1, 0, none⟩) ∧ s.f 8 = .int .i64 (j : Nat) ∧ j ≤ i ∧ k = i - j ∧ ∀ (q : Nat) (hq : q < g.rules.length), q < j → g.rules[q].left = g.rules[i].left → same g.rules[q].right g.rules[i].right = false) i ?_ ?_
    · exact ⟨0, rfl, rfl, f1, f2, f5, rfl, Nat.zero_le _, rfl, fun q _ h => absurd h (Nat.not_lt_zero _)⟩
    rintro kk ⟨f', n', H'⟩ ⟨j, rfl, rfl, f1, f2, f5, f8, hj, rfl, hun⟩ ih
    simp only at f1 f2 f5 f8 ih hb ho hr hp hx hk bad
    by_cases hjr : j < i
    · obtain ⟨x', k', cs', ty', own', p', e', hx', d0, d1, d2, hp'⟩ := hr.at (i := j) (by omega)
      cases e'
      rw [hx] at hx'
      cases hx'
      have hjl : j < g.rules.length := by omega
      obtain ⟨hrl', _⟩ := wg.right _ (List.getElem_mem hjl)
      by_cases hA : g.rules[j].left = g.rules[i].left
      · repeat (first | refine qqm rfl ?_ | ((first | refine qqr ?_ | refine qqt ?_); simp only [SS, qx3, vun, simprocAttr, f1, f2, f5, f8, hb, ho, hx, gc_2, hjr, hjl, d0, d1, hA, ff_25]))
        refine AtCall.by (same_gives hp' hp hrl' (by unfold maxL; omega)) ?_
        rintro v n' H' hk' ⟨rfl, rfl, rfl⟩
        cases hS : same g.rules[j].right g.rules[i].right
        · simp only [SS, qx3, vun, simprocAttr, ff_25]
          have hun' : ∀ (q : Nat) (hq : q < g.rules.length), q < j + 1 → g.rules[q].left = g.rules[i].left → same g.rules[q].right g.rules[i].right = false := fun q hq h e => by
            by_cases hqj : q = j
            · subst hqj; exact hS
            · exact hun q hq (by omega) e
          repeat (first | refine qqm rfl ?_ | ((first | refine qqr ?_ | refine qqt ?_); simp only [SS, qx3, vun, simprocAttr, f1, f2, f5, f8, ff_25]))
          refine ih (i - (j + 1)) (by omega) _ ⟨j + 1, rfl, rfl, f1, f2, f5, ?_, hjr, rfl, hun'⟩
          simp only [packed, qv, Nat.reduceEqDiff, ↓reduceIte, f8, ff_25]
          rw [wrap_in (by omega) (by omega)]; rfl
        · simp only [SS, qx3, vun, simprocAttr, ff_25]
          repeat (first | refine qqm rfl ?_ | ((first | refine qqr ?_ | refine qqt ?_); simp only [SS, qx3, vun, simprocAttr, ff_25]))
          exact WK.retNil (bad _ rfl)
      · repeat (first | refine qqm rfl ?_ | ((first | refine qqr ?_ | refine qqt ?_); simp only [SS, qx3, vun, simprocAttr, f1, f2, f5, f8, hb, ho, hx, gc_2, hjr, hjl, d0, d1, hA, ff_25]))
        have hun' : ∀ (q : Nat) (hq : q < g.rules.length), q < j + 1 → g.rules[q].left = g.rules[i].left → same g.rules[q].right g.rules[i].right = false := fun q hq h e => by
          by_cases hqj : q = j
          · subst hqj; exact absurd e hA
          · exact hun q hq (by omega) e
        refine ih (i - (j + 1)) (by omega) _ ⟨j + 1, rfl, rfl, f1, f2, f5, ?_, hjr, rfl, hun'⟩
        simp only [packed, qv, Nat.reduceEqDiff, ↓reduceIte, f8, ff_25]
        rw [wrap_in (by omega) (by omega)]; rfl
    · repeat (first | refine qqm rfl ?_ | ((first | refine qqr ?_ | refine qqt ?_); simp only [SS, qx3, vun, simprocAttr, f1, f2, f5, f8, hjr, ff_25]))
      first | refine qqf ?_ ?_ | refine qqg ?_ ?_
      · exact hk
      · exact ⟨true, rfl, fun _ => ⟨⟨q1, q2, q3, hsym, q4, q5⟩, fun q hq h => hun q hq (by omega)⟩⟩
end Go.Proofs.YtjlgpanihjnaeaaGreatDoor

namespace Go.Proofs.YtjlgpanihjnaeaaGreatDoor
open Go.AM
set_option maxRecDepth 100000
def letter(x:Int):Bool:=decide (97≤x) && decide (x≤122) || decide (65≤x) && decide (x≤90)
def digit(x:Int):Bool:=decide (48≤x) && decide (x≤57)
def inner(x:Int):Bool:=letter x || digit x || decide (x=95)
def quotable(x:Int):Bool:=decide (32≤x) && decide (x≤126) && !decide (x=39)
theorem letter_gives(x:Int)(n:Nat)(H:Heap):Gives Tryz.prog 41 [.int .u8 x] n H fun v n' H'=>v=.bool (letter x)∧n'=n∧H'=H:=by
 refine Gives.of orders ok41 (Nat.le_of_ble_eq_true rfl) ?_
 by_cases h1:97≤x
 ·by_cases h2:x≤122
  ·repeat (first|refine qqm rfl ?_|((first|refine qqr ?_|refine qqt ?_);simp only[SS,qx1,simprocAttr,h1,h2]))
   first|refine qqf ?_ ?_|refine qqg ?_ ?_
   ·exact fun _ _=>rfl
   ·simp only[packed,qv,Nat.reduceEqDiff,↓reduceIte,letter,h1,h2]
    simp
  ·by_cases h3:65≤x
   ·by_cases h4:x≤90
    ·omega
    ·repeat (first|refine qqm rfl ?_|((first|refine qqr ?_|refine qqt ?_);simp only[SS,qx1,simprocAttr,h1,h2,h3,h4]))
     first|refine qqf ?_ ?_|refine qqg ?_ ?_
     ·exact fun _ _=>rfl
     ·simp only[packed,qv,Nat.reduceEqDiff,↓reduceIte,letter,h1,h2,h3,h4]
      simp
   ·omega
 ·by_cases h3:65≤x
  ·by_cases h4:x≤90
   ·repeat (first|refine qqm rfl ?_|((first|refine qqr ?_|refine qqt ?_);simp only[SS,qx1,simprocAttr,h1,h3,h4]))
    first|refine qqf ?_ ?_|refine qqg ?_ ?_
    ·exact fun _ _=>rfl
    ·simp only[packed,qv,Nat.reduceEqDiff,↓reduceIte,letter,h1,h3,h4]
     simp
   ·repeat (first|refine qqm rfl ?_|((first|refine qqr ?_|refine qqt ?_);simp only[SS,qx1,simprocAttr,h1,h3,h4]))
    first|refine qqf ?_ ?_|refine qqg ?_ ?_
    ·exact fun _ _=>rfl
    ·simp only[packed,qv,Nat.reduceEqDiff,↓reduceIte,letter,h1,h3,h4]
     simp
  ·repeat (first|refine qqm rfl ?_|((first|refine qqr ?_|refine qqt ?_);simp only[SS,qx1,simprocAttr,h1,h3]))
   first|refine qqf ?_ ?_|refine qqg ?_ ?_
   ·exact fun _ _=>rfl
   ·simp only[packed,qv,Nat.reduceEqDiff,↓reduceIte,letter,h1,h3]
    simp
theorem digit_gives(x:Int)(n:Nat)(H:Heap):Gives Tryz.prog 59 [.int .u8 x] n H fun v n' H'=>v=.bool (digit x)∧n'=n∧H'=H:=by
 refine Gives.of orders ok59 (Nat.le_of_ble_eq_true rfl) ?_
 by_cases h1:48≤x
 ·by_cases h2:x≤57
  ·repeat (first|refine qqm rfl ?_|((first|refine qqr ?_|refine qqt ?_);simp only[SS,qx1,simprocAttr,h1,h2]))
   first|refine qqf ?_ ?_|refine qqg ?_ ?_
   ·exact fun _ _=>rfl
   ·simp only[packed,qv,Nat.reduceEqDiff,↓reduceIte,digit,h1,h2]
    simp
  ·repeat (first|refine qqm rfl ?_|((first|refine qqr ?_|refine qqt ?_);simp only[SS,qx1,simprocAttr,h1,h2]))
   first|refine qqf ?_ ?_|refine qqg ?_ ?_
   ·exact fun _ _=>rfl
   ·simp only[packed,qv,Nat.reduceEqDiff,↓reduceIte,digit,h1,h2]
    simp
 ·repeat (first|refine qqm rfl ?_|((first|refine qqr ?_|refine qqt ?_);simp only[SS,qx1,simprocAttr,h1]))
  first|refine qqf ?_ ?_|refine qqg ?_ ?_
  ·exact fun _ _=>rfl
  ·simp only[packed,qv,Nat.reduceEqDiff,↓reduceIte,digit,h1]
   simp
theorem quotable_gives(x:Int)(n:Nat)(H:Heap):Gives Tryz.prog 43 [.int .u8 x] n H fun v n' H'=>v=.bool (quotable x)∧n'=n∧H'=H:=by
 refine Gives.of orders ok43 (Nat.le_of_ble_eq_true rfl) ?_
 by_cases h1:32≤x
 ·by_cases h2:x≤126
  ·repeat (first|refine qqm rfl ?_|((first|refine qqr ?_|refine qqt ?_);simp only[SS,qx1,simprocAttr,h1,h2,ff_43]))
   first|refine qqf ?_ ?_|refine qqg ?_ ?_
   ·exact fun _ _=>rfl
   ·simp only[packed,qv,Nat.reduceEqDiff,↓reduceIte,quotable,h1,h2,ff_43]
    simp
  ·repeat (first|refine qqm rfl ?_|((first|refine qqr ?_|refine qqt ?_);simp only[SS,qx1,simprocAttr,h1,h2,ff_43]))
   first|refine qqf ?_ ?_|refine qqg ?_ ?_
   ·exact fun _ _=>rfl
   ·simp only[packed,qv,Nat.reduceEqDiff,↓reduceIte,quotable,h1,h2,ff_43]
    simp
 ·repeat (first|refine qqm rfl ?_|((first|refine qqr ?_|refine qqt ?_);simp only[SS,qx1,simprocAttr,h1,ff_43]))
  first|refine qqf ?_ ?_|refine qqg ?_ ?_
  ·exact fun _ _=>rfl
  ·simp only[packed,qv,Nat.reduceEqDiff,↓reduceIte,quotable,h1,ff_43]
   simp
theorem inner_gives(x:Int)(n:Nat)(H:Heap):Gives Tryz.prog 42 [.int .u8 x] n H fun v n' H'=>v=.bool (inner x)∧n'=n∧H'=H:=by
 refine Gives.of orders ok42 (Nat.le_of_ble_eq_true rfl) ?_
 repeat (first|refine qqm rfl ?_|((first|refine qqr ?_|refine qqt ?_);simp only[SS,qx1,simprocAttr,ff_42]))
 refine AtCall.by (letter_gives x n H) ?_
 rintro v n' H' hk ⟨rfl,rfl,rfl⟩
 by_cases h1:letter x=true
 ·simp only[SS,qx1,simprocAttr,h1,ff_42]
  repeat (first|refine qqm rfl ?_|((first|refine qqr ?_|refine qqt ?_);simp only[SS,qx1,simprocAttr,h1,ff_42]))
  first|refine qqf ?_ ?_|refine qqg ?_ ?_
  ·exact fun _ _=>rfl
  ·simp only[packed,qv,Nat.reduceEqDiff,↓reduceIte,inner,h1,ff_42]
   simp
 ·have h1:letter x=false:=by simpa using h1
  simp only[SS,qx1,simprocAttr,h1,ff_42]
  refine AtCall.by (digit_gives x _ _) ?_
  rintro v n' H' hk ⟨rfl,rfl,rfl⟩
  by_cases h2:digit x=true
  ·simp only[SS,qx1,simprocAttr,h1,h2,ff_42]
   repeat (first|refine qqm rfl ?_|((first|refine qqr ?_|refine qqt ?_);simp only[SS,qx1,simprocAttr,h1,h2,ff_42]))
   first|refine qqf ?_ ?_|refine qqg ?_ ?_
   ·exact fun _ _=>rfl
   ·simp only[packed,qv,Nat.reduceEqDiff,↓reduceIte,inner,h1,h2,ff_42]
    simp
  ·have h2:digit x=false:=by simpa using h2
   simp only[SS,qx1,simprocAttr,h1,h2,ff_42]
   repeat (first|refine qqm rfl ?_|((first|refine qqr ?_|refine qqt ?_);simp only[SS,qx1,simprocAttr,h1,h2,ff_42]))
   first|refine qqf ?_ ?_|refine qqg ?_ ?_
   ·exact fun _ _=>rfl
   ·simp only[packed,qv,Nat.reduceEqDiff,↓reduceIte,inner,h1,h2,ff_42]
    simp
end Go.Proofs.YtjlgpanihjnaeaaGreatDoor
