/- A part of a proof. Its conditions: none. -/
import Derived.Test.YtjlgpanihjnaeaaGreatDoorAmXFacts
import Derived.Test.YtjlgpanihjnaeaaGreatDoorAmXAtStart
import Derived.Test.YtjlgpanihjnaeaaGreatDoorAmC
import Derived.Test.YtjlgpanihjnaeaaGreatDoorAmD
set_option linter.all false
namespace Go.Proofs.YtjlgpanihjnaeaaGreatDoor
open Go.AM
set_option maxRecDepth 100000
theorem ust:Tryz.prog.underlying 9=some .string:=by kernel_rfl
theorem ff_96:Tryz.prog.underlying 9=some .string:=ust
def slOK(T:ByteArray)(a b:Nat→Nat)(L:Nat→List UInt8)(N:Nat):Bool:=(List.range N).all fun i=>decide ((T.extract (a i) (b i)).data.toList=L i) && decide (a i≤b i) && decide (b i≤T.size)
theorem w3_sl{k:Fr→Nat→Heap→Prop}{f:Fr}{d:Option Nat}{n:Nat}{H:Heap}{T:ByteArray}{alt:Option Res}(a b:Nat→Nat)(L:Nat→List UInt8)(N i:Nat)(hT:slOK T a b L N=true)(hi:i<N)(h:w3 k f d n H (some { v:=.string (BA (L i)) })) :
  w3 k f d n H (tss2 T alt (some .string) (some (a i)) (some (b i))):=by
 unfold slOK at hT
 have:=List.all_eq_true.1 hT i (by simpa using hi)
 simp only[Bool.and_eq_true,decide_eq_true_eq]at this
 have e:T.extract (a i) (b i)=BA (L i):=by rw[←this.1.1];rfl
 simp only[tss2,this.1.2,this.2,and_self,if_true,e]
 exact h
set_option maxHeartbeats 2000000 in
theorem small_gives(m:Nat)(hm:m<100)(n:Nat)(H:Heap):Gives Tryz.prog 96 [.int .i64 m] n H fun v n' H'=>v=.string (BA (dN m))∧n'=n∧H'=H:=by
 refine Gives.of orders ok96 (Nat.le_of_ble_eq_true rfl) ?_
 have h0:(0:Int)≤(m:Int):=Int.natCast_nonneg m
 have w1:IntKind.i64.wrap ((m:Int)+1)=((m+1:Nat):Int):=by rw[wrap_in (by omega) (by omega)];simp
 have w2:IntKind.i64.wrap ((m:Int)*2)=((m*2:Nat):Int):=by rw[wrap_in (by omega) (by omega)];simp
 have w3':IntKind.i64.wrap (((m*2:Nat):Int)+2)=((m*2+2:Nat):Int):=by rw[wrap_in (by omega) (by omega)];simp
 have h1:(0:Int)≤((m+1:Nat):Int):=Int.natCast_nonneg _
 have h2:(0:Int)≤((m*2:Nat):Int):=Int.natCast_nonneg _
 have h3:(0:Int)≤((m*2+2:Nat):Int):=Int.natCast_nonneg _
 by_cases hc:m<10
 ·have hc':((m:Int)<10)=True:=by simp only[eq_iff_iff,iff_true];omega
  repeat (first|refine qqm rfl ?_|((first|refine qqr ?_|refine qqt ?_);simp only[SS,qx40,simprocAttr,hc',w1,h0,h1,aop_ssl,tss,sbnd,ust,Int.toNat_natCast,ff_96]))
  refine w3_sl (fun i=>i) (fun i=>i+1) (fun i=>[UInt8.ofNat (48+i)]) 10 m (by kernel_rfl) hc ?_
  simp only[SS,qx40,simprocAttr,ff_96]
  repeat (first|refine qqm rfl ?_|((first|refine qqr ?_|refine qqt ?_);simp only[SS,qx40,simprocAttr,ff_96]))
  first|refine qqf ?_ ?_|refine qqg ?_ ?_
  ·exact fun _ _=>rfl
  ·simp only[packed,qv,Nat.reduceEqDiff,↓reduceIte,dN_lt hc,ff_96]
   exact⟨trivial,trivial,trivial⟩
 ·have hc':((m:Int)<10)=False:=by simp only[eq_iff_iff,iff_false];omega
  repeat (first|refine qqm rfl ?_|((first|refine qqr ?_|refine qqt ?_);simp only[SS,qx40,simprocAttr,hc',w2,w3',h0,h2,h3,aop_ssl,tss,sbnd,ust,Int.toNat_natCast,ff_96]))
  refine w3_sl (fun i=>i*2) (fun i=>i*2+2) (fun i=>[UInt8.ofNat (48+i / 10),UInt8.ofNat (48+i % 10)]) 100 m (by kernel_rfl) hm ?_
  simp only[SS,qx40,simprocAttr,ff_96]
  repeat (first|refine qqm rfl ?_|((first|refine qqr ?_|refine qqt ?_);simp only[SS,qx40,simprocAttr,ff_96]))
  first|refine qqf ?_ ?_|refine qqg ?_ ?_
  ·exact fun _ _=>rfl
  ·simp only[packed,qv,Nat.reduceEqDiff,↓reduceIte,dN_ge hc,dN_lt (show m / 10<10 by omega),ff_96]
   exact⟨rfl,trivial,trivial⟩
def bI(b:UInt8):Int:=(b.toNat:Int)
theorem bytes_list:∀l:List UInt8,bytesOf (l.map fun b=>Value.int .u8 (bI b))=some (l.map bI):=by
 intro l
 induction l with
 | nil=>rfl
 | cons a l ih=>simp only[List.map_cons,bytesOf,ih];rfl
theorem nums_list(l:List UInt8):strNums (l.map bI)=BA l:=by
 unfold strNums BA
 rw[List.map_map]
 have:(l.map ((fun n:Int=>UInt8.ofNat n.toNat) ∘ bI))=l:=by
  conv=>rhs;rw[←List.map_id l]
  apply List.map_congr_left
  intro b _
  simp[bI]
 rw[this]
theorem astr0{H:Heap}{y k m:Nat}{l:List UInt8}{cs:List Value}{ty:TypeId}{own:Bool}(h:H y=.cells cs ty own)(hm:m=l.length)(hk:k+m≤cs.length)(hl:(cs.drop k).take m=l.map fun b=>Value.int .u8 (bI b)) :
  astring Tryz.prog 85 9 H (.slice (some ⟨y,k,none⟩) m m)=some { v:=.string (BA l),rd:=[y] }:=by
 have h1:Tryz.prog.underlying 85=some (.slice 5):=by kernel_rfl
 have h2:Tryz.prog.underlying 9=some .string:=by kernel_rfl
 have h3:Tryz.prog.underlying 5=some (.int .u8):=by kernel_rfl
 unfold astring
 simp only[h1,h2,h3,h]
 rw[if_pos hk,hl,bytes_list]
 simp only[Option.map_some,nums_list]
def bv8(b:UInt8):Value:=.int .u8 (bI b)
theorem dat8(s:List UInt8):((BA s).data.toList.map fun b=>Value.int .u8 (b.toNat:Int))=s.map bv8:=rfl
theorem auint0_gives{m n:Nat}{H:Heap}(hm:m<100) :
  Gives Tryz.prog 108 [.slice none 0 0,.int .u64 (m:Nat),.int .i64 10] n H fun v n' H'=>∃y,v=.slice (some ⟨y,0,none⟩) (dN m).length (dN m).length∧n≤y∧y<n'∧H' y=.cells ((dN m).map bv8) 5 true:=by
 refine Gives.of orders ok108 (Nat.le_of_ble_eq_true rfl) ?_
 have h10:((10:Int)=10)=True:=eq_true rfl
 have hm1:((m:Int)<100)=True:=eq_true (by omega)
 have hmc:IntKind.i64.wrap (m:Int)=(m:Int):=wrap_in (by omega) (by omega)
 have hl:0<(dN m).length:=dN_pos m
 have hl2:(dN m).length≤2:=by
  by_cases h:m<10
  ·rw[dN_lt h];simp
  ·rw[dN_ge h,dN_lt (by omega)];simp
 repeat (first|refine qqm rfl ?_|((first|refine qqr ?_|refine qqt ?_);simp only[SS,qx41,vconv,simprocAttr,h10,hm1,hmc,decide_true,ff_108]))
 refine AtCall.by (small_gives m hm _ _) ?_
 rintro _ n1 H1 k1 ⟨rfl,hn1,hH1⟩
 subst hn1
 obtain rfl:=hH1.symm
 have hsz:(BA (dN m)).size=(dN m).length:=ba_size _
 have hs0:((dN m).length=0)=False:=eq_false (by omega)
 have hnb:(bigN<(dN m).length)=False:=eq_false (by unfold bigN;omega)
 have hdat:=dat8 (dN m)
 simp only[SS,qx41,vconv,simprocAttr,hsz,hs0,hnb,hdat,ff_108]
 repeat (first|refine qqm rfl ?_|((first|refine qqr ?_|refine qqt ?_);simp only[SS,qx41,vconv,simprocAttr,ff_108]))
 first|refine qqf ?_ ?_|refine qqg ?_ ?_
 ·exact(Kp.new n1 H _).keep
 ·simp only[packed,qv,Nat.reduceEqDiff,↓reduceIte,ff_108]
  exact⟨n1,rfl,Nat.le_refl _,Nat.lt_succ_self _,hset_at _ _ _⟩
theorem auint_gives{m n yd:Nat}{l:List UInt8}{H:Heap}(hm:m<100)(hy:H yd=.cells (l.map bv8) 5 true)(hyn:yd<n)(hll:l.length≤1000000) :
  GivesX Tryz.prog (fun z=>z=yd) 108 [.slice (some ⟨yd,0,none⟩) l.length l.length,.int .u64 (m:Nat),.int .i64 10] n H fun v n' H'=>∃y,v=.slice (some ⟨y,0,none⟩) (l++dN m).length (l++dN m).length∧n≤y∧y<n'∧H' y=.cells ((l++dN m).map bv8) 5 true:=by
 refine GivesX.of orders ok108 (Nat.le_of_ble_eq_true rfl) ?_
 have h10:((10:Int)=10)=True:=eq_true rfl
 have hm1:((m:Int)<100)=True:=eq_true (by omega)
 have hmc:IntKind.i64.wrap (m:Int)=(m:Int):=wrap_in (by omega) (by omega)
 have hl:0<(dN m).length:=dN_pos m
 have hl2:(dN m).length≤2:=by
  by_cases h:m<10
  ·rw[dN_lt h];simp
  ·rw[dN_ge h,dN_lt (by omega)];simp
 repeat (first|refine qqm rfl ?_|((first|refine qqr ?_|refine qqt ?_);simp only[SS,qx41,vconv,simprocAttr,h10,hm1,hmc,decide_true,ff_108]))
 refine AtCall.by (small_gives m hm _ _) ?_
 rintro _ n1 H1 k1 ⟨rfl,hn1,hH1⟩
 subst hn1
 obtain rfl:=hH1.symm
 have hsz:(BA (dN m)).size=(dN m).length:=ba_size _
 have hb2:l.length+(dN m).length≤bigN:=by unfold bigN;omega
 have hdat:=dat8 (dN m)
 have hml:(l.map bv8).length=l.length:=List.length_map _
 have htk:(l.map bv8).take l.length=l.map bv8:=List.take_of_length_le (by simp)
 simp only[SS,qx41,vconv,simprocAttr,hsz,hb2,hdat,hy,hml,htk,List.contains_nil,Nat.le_refl,List.drop_zero,Nat.zero_add,Nat.mul_one,ff_108]
 repeat (first|refine qqm rfl ?_|((first|refine qqr ?_|refine qqt ?_);simp only[SS,qx41,vconv,simprocAttr,ff_108]))
 refine WK.retNil ⟨Or.inr rfl,_,rfl,fun z hz hX=>?_,?_⟩
 ·exact(hset_ne _ _ _ (by omega)).trans (hset_ne _ _ _ hX)
 ·refine⟨n1,by rw[List.length_append];rfl,Nat.le_refl _,Nat.lt_succ_self _,?_⟩
  rw[List.map_append]
  exact hset_at _ _ _
theorem wrap1:IntKind.u64.wrap (0 - IntKind.u64.wrap (-1))=((1:Nat):Int):=by decide
theorem dIm:dI (-1)=[45]++dN 1:=rfl
theorem dIp(m:Nat):dI (m:Int)=dN m:=by
 unfold dI
 rw[if_neg (by omega)]
 rfl
theorem aint0_gives{i:Int}{n:Nat}{H:Heap}(h0 : -1≤i)(h1:i<100) :
  Gives Tryz.prog 95 [.slice none 0 0,.int .i64 i,.int .i64 10] n H fun v n' H'=>∃y,v=.slice (some ⟨y,0,none⟩) (dI i).length (dI i).length∧n≤y∧y<n'∧H' y=.cells ((dI i).map bv8) 5 true:=by
 refine Gives.of orders ok95 (Nat.le_of_ble_eq_true rfl) ?_
 by_cases hn:i<0
 ·obtain rfl:i = -1:=by omega
  have hn':((-1:Int)<0)=True:=eq_true (by omega)
  repeat (first|refine qqm rfl ?_|((first|refine qqr ?_|refine qqt ?_);simp only[SS,qx22,vconv,vun,simprocAttr,hn',wrap1,decide_true,ff_95]))
  have kn:=(Kp.new n H (.cells [.int .u8 45] 5 true)).trans (Kp.new (n+1) _ (.cells (List.take 1 (List.drop 0 [.int .u8 45])) 5 true))
  refine AtCall.byX (auint_gives (m:=1) (l:=[45]) (by omega) (hset_at _ _ _) (Nat.lt_succ_self _) (by simp)) ?_
  rintro _ n1 H1 k1 ⟨y,rfl,y0,y1,hy⟩
  simp only[SS,qx22,vconv,vun,simprocAttr,ff_95]
  repeat (first|refine qqm rfl ?_|((first|refine qqr ?_|refine qqt ?_);simp only[SS,qx22,vconv,vun,simprocAttr,ff_95]))
  refine WK.retNil ⟨Or.inr rfl,_,rfl,fun z hz=>(k1.keep z (by omega) (by show ¬z=n+1;omega)).trans (kn.keep z hz),?_⟩
  exact⟨y,rfl,by omega,y1,hy⟩
 ·have hn':(i<0)=False:=eq_false hn
  obtain⟨m,rfl⟩:∃m:Nat,i=m:=⟨i.toNat,by omega⟩
  have hw1:IntKind.u64.wrap (m:Int)=(m:Int):=by unfold IntKind.wrap;simp[IntKind.bits,IntKind.signed];omega
  repeat (first|refine qqm rfl ?_|((first|refine qqr ?_|refine qqt ?_);simp only[SS,qx22,vconv,vun,simprocAttr,hn',hw1,decide_false,ff_95]))
  refine AtCall.by (auint0_gives (m:=m) (by omega)) ?_
  rintro _ n1 H1 k1 ⟨y,rfl,y0,y1,hy⟩
  simp only[SS,qx22,vconv,vun,simprocAttr,ff_95]
  repeat (first|refine qqm rfl ?_|((first|refine qqr ?_|refine qqt ?_);simp only[SS,qx22,vconv,vun,simprocAttr,ff_95]))
  first|refine qqf ?_ ?_|refine qqg ?_ ?_
  ·exact k1.keep
  ·simp only[packed,qv,Nat.reduceEqDiff,↓reduceIte,ff_95]
   rw[dIp]
   exact⟨y,rfl,y0,y1,hy⟩
theorem aint_gives{i:Int}{n yd:Nat}{l:List UInt8}{H:Heap}(h0 : -1≤i)(h1:i<100)(hy:H yd=.cells (l.map bv8) 5 true)(hyn:yd<n)(hll:l.length≤900000) :
  GivesX Tryz.prog (fun z=>z=yd) 95 [.slice (some ⟨yd,0,none⟩) l.length l.length,.int .i64 i,.int .i64 10] n H fun v n' H'=>∃y,v=.slice (some ⟨y,0,none⟩) (l++dI i).length (l++dI i).length∧n≤y∧y<n'∧H' y=.cells ((l++dI i).map bv8) 5 true:=by
 refine GivesX.of orders ok95 (Nat.le_of_ble_eq_true rfl) ?_
 by_cases hn:i<0
 ·obtain rfl:i = -1:=by omega
  have hn':((-1:Int)<0)=True:=eq_true (by omega)
  have m1:∀o,hset H n o yd=_:=fun o=>(hset_ne _ _ _ (by omega)).trans hy
  have bl:l.length+1≤bigN:=by unfold bigN;omega
  have hct:[n].contains yd=false:=by simp;omega
  have hml:(l.map bv8).length=l.length:=List.length_map _
  have htk:(l.map bv8).take l.length=l.map bv8:=List.take_of_length_le (by simp)
  have h45:List.take 1 [Value.int .u8 45]=[45].map bv8:=rfl
  repeat (first|refine qqm rfl ?_|((first|refine qqr ?_|refine qqt ?_);simp only[SS,qx22,vconv,vun,simprocAttr,hn',wrap1,m1,bl,hct,hml,htk,h45,decide_true,hset_at,Nat.le_refl,List.drop_zero,Nat.mul_one,Nat.zero_add,ff_95]))
  have kn:∀A C,Kx (fun z=>z=yd) n H (n+1+1) (hset (hset (hset H n A) yd .dead) (n+1) C):=fun A C=>(((Kp.new n H A).kx (X:=fun z=>z=yd)).set (x:=yd) .dead (.inl rfl) (by omega)).trans (Kp.new (n+1) _ C).kx
  have hc:=auint_gives (m:=1) (l:=l++[45]) (yd:=n+1) (n:=n+1+1) (H:=hset (hset (hset H n (.cells [.int .u8 45] 5 true)) yd .dead) (n+1) (.cells (l.map bv8++[45].map bv8) 5 true)) (by omega) (by rw[List.map_append];exact hset_at _ _ _) (Nat.lt_succ_self _) (by simp;omega)
  rw[List.length_append,List.length_singleton]at hc
  refine AtCall.byX hc ?_
  rintro _ n1 H1 k1 ⟨y,rfl,y0,y1,hy1⟩
  simp only[SS,qx22,vconv,vun,simprocAttr,ff_95]
  repeat (first|refine qqm rfl ?_|((first|refine qqr ?_|refine qqt ?_);simp only[SS,qx22,vconv,vun,simprocAttr,ff_95]))
  refine WK.retNil ⟨Or.inr rfl,_,rfl,fun z hz hX=>(k1.keep z (by omega) (by show ¬z=n+1;omega)).trans ((kn _ _).keep z hz hX),?_⟩
  rw[dIm,←List.append_assoc]
  exact⟨y,rfl,by omega,y1,hy1⟩
 ·have hn':(i<0)=False:=eq_false hn
  obtain⟨m,rfl⟩:∃m:Nat,i=m:=⟨i.toNat,by omega⟩
  have hw1:IntKind.u64.wrap (m:Int)=(m:Int):=by unfold IntKind.wrap;simp[IntKind.bits,IntKind.signed];omega
  repeat (first|refine qqm rfl ?_|((first|refine qqr ?_|refine qqt ?_);simp only[SS,qx22,vconv,vun,simprocAttr,hn',hw1,decide_false,ff_95]))
  refine AtCall.byX (auint_gives (m:=m) (by omega) hy hyn (by omega)) ?_
  rintro _ n1 H1 k1 ⟨y,rfl,y0,y1,hy1⟩
  simp only[SS,qx22,vconv,vun,simprocAttr,ff_95]
  repeat (first|refine qqm rfl ?_|((first|refine qqr ?_|refine qqt ?_);simp only[SS,qx22,vconv,vun,simprocAttr,ff_95]))
  refine WK.retNil ⟨Or.inr rfl,_,rfl,k1.keep,?_⟩
  rw[dIp]
  exact⟨y,rfl,y0,y1,hy1⟩
theorem appint0_gives{i:Int}{n:Nat}{H:Heap}(h0 : -1≤i)(h1:i<100) :
  Gives Tryz.prog 71 [.slice none 0 0,.int .i64 i,.int .i64 10] n H fun v n' H'=>∃y,v=.slice (some ⟨y,0,none⟩) (dI i).length (dI i).length∧n≤y∧y<n'∧H' y=.cells ((dI i).map bv8) 5 true:=by
 refine Gives.of orders ok71 (Nat.le_of_ble_eq_true rfl) ?_
 repeat (first|refine qqm rfl ?_|((first|refine qqr ?_|refine qqt ?_);simp only[SS,qg0,simprocAttr]))
 refine AtCall.by (aint0_gives h0 h1) ?_
 rintro _ n1 H1 k1 ⟨y,rfl,y0,y1,hy1⟩
 simp only[SS,qg0,simprocAttr]
 repeat (first|refine qqm rfl ?_|((first|refine qqr ?_|refine qqt ?_);simp only[SS,qg0,simprocAttr]))
 first|refine qqf ?_ ?_|refine qqg ?_ ?_
 ·exact k1.keep
 ·simp only[packed,qv,Nat.reduceEqDiff,↓reduceIte]
  exact⟨y,rfl,y0,y1,hy1⟩
theorem appint_gives{i:Int}{n yd:Nat}{l:List UInt8}{H:Heap}(h0 : -1≤i)(h1:i<100)(hy:H yd=.cells (l.map bv8) 5 true)(hyn:yd<n)(hll:l.length≤900000) :
  GivesX Tryz.prog (fun z=>z=yd) 71 [.slice (some ⟨yd,0,none⟩) l.length l.length,.int .i64 i,.int .i64 10] n H fun v n' H'=>∃y,v=.slice (some ⟨y,0,none⟩) (l++dI i).length (l++dI i).length∧n≤y∧y<n'∧H' y=.cells ((l++dI i).map bv8) 5 true:=by
 refine GivesX.of orders ok71 (Nat.le_of_ble_eq_true rfl) ?_
 repeat (first|refine qqm rfl ?_|((first|refine qqr ?_|refine qqt ?_);simp only[SS,qg0,simprocAttr]))
 refine AtCall.byX (aint_gives h0 h1 hy hyn hll) ?_
 rintro _ n1 H1 k1 ⟨y,rfl,y0,y1,hy1⟩
 simp only[SS,qg0,simprocAttr]
 repeat (first|refine qqm rfl ?_|((first|refine qqr ?_|refine qqt ?_);simp only[SS,qg0,simprocAttr]))
 refine WK.retNil ⟨Or.inr rfl,_,rfl,k1.keep,?_⟩
 exact⟨y,rfl,y0,y1,hy1⟩
def dSp(s:Int × Int):List UInt8:=32::dI s.1++46::dI s.2
def dCf(c:Cfg):List UInt8:=59::dI c.alt++((c.rule,c.dot)::c.stack).flatMap dSp
def dK(rule:Int)(L:List Cfg):List UInt8:=dI rule++L.flatMap dCf
def Sml(z:Int):Prop:=-1≤z∧z<100
def SmlC(c:Cfg):Prop:=Sml c.alt∧Sml c.rule∧Sml c.dot∧(∀s∈c.stack,Sml s.1∧Sml s.2)∧c.stack.length≤64
theorem dI_sml{z:Int}(h:Sml z):(dI z).length≤2:=by
 by_cases hn:z<0
 ·obtain rfl:z = -1:=by have:=h.1;omega
  rw[dIm,dN_lt (by omega)];simp
 ·obtain⟨m,rfl⟩:∃m:Nat,z=m:=⟨z.toNat,by omega⟩
  rw[dIp]
  have:=h.2
  by_cases h:m<10
  ·rw[dN_lt h];simp
  ·rw[dN_ge h,dN_lt (by omega)];simp
theorem dSp_len{s:Int × Int}(h:Sml s.1∧Sml s.2):(dSp s).length≤6:=by
 have h1:=dI_sml h.1
 have h2:=dI_sml h.2
 simp[dSp];omega
theorem fmb_len{α:Type}{f:α→List UInt8}{m:Nat}:∀{l:List α},(∀a∈l,(f a).length≤m)→(l.flatMap f).length≤l.length*m
 | [],_=>by simp
 | a::l,h=>by
  have h1:=h a (List.mem_cons_self ..)
  have h2:=fmb_len (l:=l) fun b hb=>h b (List.mem_cons_of_mem _ hb)
  rw[List.flatMap_cons,List.length_append,List.length_cons,Nat.succ_mul]
  omega
theorem spots_len{c:Cfg}(h:SmlC c){l:List (Int × Int)}(hl:∀s∈l,s∈(c.rule,c.dot)::c.stack):(l.flatMap dSp).length≤l.length*6 :=
 fmb_len fun s hs=>dSp_len (by
  rcases List.mem_cons.1 (hl s hs)with rfl|h1
  ·exact⟨h.2.1,h.2.2.1⟩
  ·exact h.2.2.2.1 s h1)
theorem dCf_len{c:Cfg}(h:SmlC c):(dCf c).length≤400:=by
 have h1:=dI_sml h.1
 have h2:=spots_len h (l:=(c.rule,c.dot)::c.stack) fun s hs=>hs
 have h3:=h.2.2.2.2
 rw[List.length_cons]at h2
 simp only[dCf,List.length_append,List.length_cons]
 omega
theorem dK_len{rule:Int}{L:List Cfg}(h:Sml rule)(hL:∀c∈L,SmlC c)(hl:L.length≤400):(dK rule L).length≤160002:=by
 have h1:=dI_sml h
 have h2:=fmb_len (f:=dCf) (m:=400) (l:=L) fun c hc=>dCf_len (hL c hc)
 rw[dK,List.length_append]
 have:L.length*400≤400*400:=Nat.mul_le_mul_right _ hl
 omega
set_option maxHeartbeats 16000000 in
theorem key_gives{n:Nat}{H:Heap}{rule:Int}{p:Option Addr}{L:List CA}(hw:WF n H)(hL:RN 4 ccell H p L)(hst:∀z∈L,StOK H z)(hr:Sml rule)(hs:∀z∈L,SmlC z.1)(hl:L.length≤400) :
  Gives Tryz.prog 53 [.int .i64 rule,.slice p L.length L.length] n H fun v _ _=>v=.string (BA (dK rule (L.map (·.1)))):=by
 refine Gives.of orders ok53 (Nat.le_of_ble_eq_true rfl) ?_
 have v1:∀s,vcells (.agg (ccell s).toArray)=ccell s:=fun _=>rfl
 have v2:∀s,(ccell s).all one=true:=fun _=>rfl
 have v0:∀s,(ccell s)[0]? = some (.int .i64 s.1.alt):=fun _=>rfl
 have v4:∀s,(ccell s)[3]? = some (.slice s.2 s.1.stack.length s.1.stack.length):=fun _=>rfl
 have v5:∀s,(ccell s).length=4:=fun _=>rfl
 have v6:∀s,((ccell s).drop 0).take 4=ccell s:=fun _=>rfl
 have v7:∀s,((ccell s).drop 1).take 2=[.int .i64 s.1.rule,.int .i64 s.1.dot]:=fun _=>rfl
 have hs4:∀(a b c d:Value) (x:CA),AM.splice [a,b,c,d] 0 (ccell x)=ccell x:=fun _ _ _ _ _=>rfl
 repeat (first|refine qqm rfl ?_|((first|refine qqr ?_|refine qqt ?_);simp only[SS,qx4,vconv,simprocAttr,ff_53]))
 refine AtCall.by (appint0_gives hr.1 hr.2) ?_
 rintro _ n1 H1 k1 ⟨y0,rfl,hy00,hy01,hy0⟩
 simp only[SS,qx4,vconv,simprocAttr,ff_53]
 repeat (first|refine qqm rfl ?_|((first|refine qqr ?_|refine qqt ?_);simp only[SS,qx4,vconv,simprocAttr,ff_53]))
 refine WK.loop (fun kk s=>∃(i y:Nat),Kp n H s.n s.H∧n≤y∧y<s.n∧s.H y=.cells ((dK rule ((L.take i).map (·.1))).map bv8) 5 true∧s.f 5=.slice (some ⟨y,0,none⟩) (dK rule ((L.take i).map (·.1))).length (dK rule ((L.take i).map (·.1))).length∧s.f 12=.slice p L.length L.length∧s.f 13=.int .i64 (L.length:Nat)∧s.f 14=.int .i64 (i:Nat)∧i≤L.length∧kk=L.length - i) L.length ?_ ?_
 ·refine⟨0,y0,k1,hy00,hy01,?_,?_,rfl,rfl,rfl,Nat.zero_le _,rfl⟩
  ·rw[List.take_zero];show H1 y0=.cells ((dI rule++[]).map bv8) _ _;rw[List.append_nil];exact hy0
  ·rw[List.take_zero];show _=Value.slice (some ⟨y0,0,none⟩) (dI rule++[]).length (dI rule++[]).length;rw[List.append_nil];rfl
 clear k1 hy00 hy01 hy0 y0 H1 n1
 rintro kk ⟨f,n2,H2⟩ ⟨i,y,k2,hyn0,hyn,hy,f5,f12,f13,f14,hil,rfl⟩ ih
 simp only at k2 hyn hy f5 f12 f13 f14 ih
 have hw2:=k2.wf hw
 have hle2:=k2.le
 have hlt0:((L.take i).map (·.1)).length≤400:=by rw[List.length_map,List.length_take];omega
 have hkl:=dK_len hr (L:=(L.take i).map (·.1)) (fun c hc=>by
  obtain⟨z,hz,rfl⟩:=List.mem_map.1 hc
  exact hs z (List.mem_of_mem_take hz)) hlt0
 by_cases hlt:i<L.length
 case neg =>
  obtain rfl:i=L.length:=by omega
  rw[List.take_length]at hy f5
  have hst:=astr0 (k:=0) (l:=dK rule (L.map (·.1))) hy rfl (by simp) (by rw[List.drop_zero];exact List.take_of_length_le (by simp))
  repeat (first|refine qqm rfl ?_|((first|refine qqr ?_|refine qqt ?_);simp only[SS,qx4,vconv,simprocAttr,f5,f12,f13,f14,hlt,aop_cv,acv,hst,ff_53]))
  first|refine qqf ?_ ?_|refine qqg ?_ ?_
  ·exact k2.keep
  ·simp only[packed,qv,Nat.reduceEqDiff,↓reduceIte,ff_53]
 have hiw:IntKind.i64.wrap ((i:Int)+1)=((i+1:Nat):Int):=by rw[wrap_in (by omega) (by omega)];rfl
 have hmem:=List.getElem_mem hlt
 have hdk:dK rule ((L.take (i+1)).map (·.1))=dK rule ((L.take i).map (·.1))++dCf L[i].1:=by
  rw[List.take_add_one,List.getElem?_eq_getElem hlt,List.map_append]
  simp[dK]
 obtain⟨u,k0,cs,ty,own,q1,q2,q3,q4⟩:=(hL.mono hw k2).at ccell_len hlt
 have hsti:=hst _ hmem
 have hsm:=hs _ hmem
 generalize L[i]=x at *
 generalize dK rule ((L.take i).map (·.1))=out at *
 subst q1
 have hun:=live_lt hw2 (live_of q2)
 have kn:=Kp.new n2 H2 (.cells (ccell x) 82 true)
 have hb:=hset_at H2 n2 (.cells (ccell x) 82 true)
 have hy3:=(kn.keep y hyn).trans hy
 have m1:∀A,hset (hset H2 n2 (.cells (ccell x) 82 true)) (n2+1) A y=_:=fun A=>(hset_ne _ _ _ (by omega)).trans hy3
 have m2:∀A B C,hset (hset (hset (hset H2 n2 (.cells (ccell x) 82 true)) (n2+1) A) y B) (n2+1+1) C n2=.cells (ccell x) 82 true:=fun A B C=>(hset_ne _ _ _ (by omega)).trans ((hset_ne _ _ _ (by omega)).trans ((hset_ne _ _ _ (by omega)).trans hb))
 have bl:out.length+1≤bigN:=by unfold bigN;omega
 have hct:[n2+1].contains y=false:=by simp;omega
 have hml:(out.map bv8).length=out.length:=List.length_map _
 have htk:(out.map bv8).take out.length=out.map bv8:=List.take_of_length_le (by simp)
 have hlt':((i:Int)<(L.length:Int))=True:=eq_true (by omega)
 have hk59:List.take 1 [Value.int .u8 59]=[59].map bv8:=rfl
 repeat refine qqn rfl ?_
 (refine qqr ?_;simp only[SS,qx4,vconv,simprocAttr,f12,f13,f14,hlt',ff_53])
 repeat refine qqn rfl ?_
 refine qqm rfl ?_
 apply WK.skipSeq;apply WK.seq;apply WK.block;apply WK.seq
 (refine qqr ?_;simp only[SS,qx4,vconv,simprocAttr,f12,f13,f14,hlt,q2,q3,q4,v1,v2,v5,v6,hs4,hset_at,ff_53])
 repeat refine qqn rfl ?_
 (refine WK.rgm [true,true,true,true,true,false] [(2,4)] (by kernel_rfl) (by kernel_rfl) ?_;simp only[wm,wl1_false,wl1_true,wl2_none,wl2_some,wl3_some,wl3_none,SS,forall_const,wx,tguard,acallee,top,tval,fput,tor,vsh,vbin,vconv,tload,tload2,tload3,tstore,tstore2,tstore3,Go.AM.splice,one,tidx,tidx2,tidx3,tfa,tfa2,tlen2,tlen3,talloc,still,still1,flat1,tbs,tbs2,afill,tap,tap2,tap3,tap4,tsrc,tsrc2,simprocAttr,f5,hb,m1,m2,v0,v5,bl,hct,hml,htk,hk59,hset_at,Nat.le_refl,List.drop_zero,Nat.mul_one,Nat.zero_add,ff_53])
 have h59:[bv8 59]=[59].map bv8:=rfl
 have hc:=appint_gives (l:=out++[59]) (yd:=n2+1+1) (n:=n2+1+1+1) (H:=hset (hset (hset (hset H2 n2 (.cells (ccell x) 82 true)) (n2+1) (.cells [.int .u8 59] 5 true)) y .dead) (n2+1+1) (.cells (out.map bv8++[bv8 59]) 5 true)) hsm.1.1 hsm.1.2 (by rw[List.map_append];exact hset_at _ _ _) (Nat.lt_succ_self _) (by simp;omega)
 rw[List.length_append,List.length_singleton]at hc
 refine AtCallL.byX hc ?_
 rintro _ n3 H3 k3 ⟨y3,rfl,y30,y31,hy3c⟩
 have kB:∀A C,Kp n H (n2+1+1+1) (hset (hset (hset (hset H2 n2 (.cells (ccell x) 82 true)) (n2+1) A) y .dead) (n2+1+1) C):=fun A C=>((k2.trans (kn.trans (Kp.new (n2+1) _ A))).set (x:=y) .dead hyn0 (by omega)).trans (Kp.new (n2+1+1) _ C)
 have kC:Kp n H n3 H3:=((kB _ _).kx (X:=fun z=>z=n2+1+1)).trans k3 |>.kp fun z hz e=>by omega
 have hw3:=kC.wf hw
 have hb3:=(k3.keep n2 (by omega) (by omega)).trans (m2 (.cells [.int .u8 59] 5 true) .dead (.cells (out.map bv8++[bv8 59]) 5 true))
 simp only[wl,wl1_false,wl1_true,wl2_none,wl2_some,wl3_some,wl3_none,SS,forall_const,wx,tguard,acallee,top,tval,fput,tor,vsh,vbin,vconv,tload,tload2,tload3,tstore,tstore2,tstore3,Go.AM.splice,one,tidx,tidx2,tidx3,tfa,tfa2,tlen2,tlen3,talloc,still,still1,flat1,tbs,tbs2,afill,tap,tap2,tap3,tap4,tsrc,tsrc2,simprocAttr,wm,ff_53]
 refine⟨light_cons rfl rfl ?_ light_nil,?_⟩
 ·exact lapart_wr (by simp;omega)
 have hst3:StOK H3 x:=hsti.mono hw kC
 have hln:(out++[59]++dI x.1.alt).length=out.length+1+(dI x.1.alt).length:=by simp;omega
 have hal2:=dI_sml hsm.1
 refine WK.frame (fun f=>f 5=.slice (some ⟨y3,0,none⟩) (out++[59]++dI x.1.alt).length (out++[59]++dI x.1.alt).length∧f 7=.pointer (some ⟨n2,0,none⟩)∧f 12=.slice (some ⟨u,k0,none⟩) L.length L.length∧f 13=.int .i64 (L.length:Nat)∧f 14=.int .i64 (i:Nat)) ⟨rfl,rfl,f12,f13,f14⟩ ?_
 have hrest:dK rule ((L.take (i+1)).map (·.1))=(out++[59]++dI x.1.alt)++(((x.1.rule,x.1.dot)::x.1.stack).flatMap dSp):=by rw[hdk];simp[dCf]
 generalize out++[59]++dI x.1.alt=o2 at *
 clear f5 f12 f13 f14 m1 m2 bl hct hml htk hk59 hc hb hy3 hy
 clear f
 rintro f ⟨f5,f7,f12,f13,f14⟩
 have sp2:∀a b:Value,AM.splice [Value.int .i64 (Int.ofNat 0),.int .i64 (Int.ofNat 0)] 0 [a,b]=[a,b]:=fun _ _=>rfl
 have hb4:∀A,hset H3 n3 A n2=.cells (ccell x) 82 true:=fun A=>(hset_ne _ _ _ (by omega)).trans hb3
 repeat refine qqn rfl ?_
 refine WK.cut (fun s=>∃yS,Kp n3 H3 s.n s.H∧n3≤yS∧yS<s.n∧s.H yS=.cells (((x.1.rule,x.1.dot)::x.1.stack).flatMap spC) 75 true∧s.f 5=.slice (some ⟨y3,0,none⟩) o2.length o2.length∧s.f 12=.slice (some ⟨u,k0,none⟩) L.length L.length∧s.f 13=.int .i64 (L.length:Nat)∧s.f 14=.int .i64 (i:Nat)∧s.f 29=.slice (some ⟨yS,0,none⟩) (x.1.stack.length+1) (x.1.stack.length+1)∧s.f 30=.int .i64 ((x.1.stack.length+1:Nat))∧s.f 31=.int .i64 (0:Nat)) ?_ ?_
 ·have k3n:∀C,Kp n3 H3 (n3+1+1) (hset (hset H3 n3 .dead) (n3+1) C):=fun C=>(Kp.new n3 H3 .dead).trans (Kp.new (n3+1) _ C)
  rcases hst3 with⟨g1,g2⟩|⟨x',k',cs',ty',own',g1,g2,g3,g4⟩
  ·have g2':x.1.stack.length=0:=by rw[g2];rfl
   have b5:1+0≤bigN:=by unfold bigN;omega
   (refine qqr ?_;simp only[SS,qx4,vconv,simprocAttr,f7,hb3,hb4,g1,g2',b5,v4,v5,v7,sp2,hset_at,Nat.le_refl,List.drop_zero,List.contains_nil,ff_53])
   refine WK.skipNil ⟨rfl,n3+1,k3n _,by omega,Nat.lt_succ_self _,?_,f5,f12,f13,f14,rfl,rfl,rfl⟩
   rw[g2]
   exact hset_at _ _ _
  ·have hxn:=live_lt hw3 (live_of g2)
   have q5:∀A,hset H3 n3 A x'=_:=fun A=>(hset_ne _ _ _ (by omega)).trans g2
   have b5:1+x.1.stack.length≤bigN:=by have:=hsm.2.2.2.2;unfold bigN;omega
   have c5:[x'].contains n3=false:=by simp;omega
   (refine qqr ?_;simp only[SS,qx4,vconv,simprocAttr,f7,hb3,hb4,g1,q5,g3,g4,b5,c5,v4,v5,v7,sp2,hset_at,Nat.le_refl,List.drop_zero,ff_53])
   refine WK.skipNil ⟨rfl,n3+1,k3n _,by omega,Nat.lt_succ_self _,hset_at _ _ _,f5,f12,f13,f14,?_,?_,rfl⟩
   ·show Value.slice (some ⟨n3+1,0,none⟩) (1+x.1.stack.length) (1+x.1.stack.length)=_
    rw[Nat.add_comm 1]
   ·show Value.int .i64 ((1+x.1.stack.length:Nat):Int)=_
    rw[Nat.add_comm 1]
 clear f5 f7 f12 f13 f14 f
 rintro⟨f,n4,H4⟩ ⟨yS,k4,hS0,hS1,hyS,f5,f12,f13,f14,f29,f30,f31⟩
 simp only at k4 hS1 hyS f5 f12 f13 f14 f29 f30 f31
 have hspl:((x.1.rule,x.1.dot)::x.1.stack).length=x.1.stack.length+1:=rfl
 have hspm:∀s∈(x.1.rule,x.1.dot)::x.1.stack,Sml s.1∧Sml s.2:=fun s hs=>by
  rcases List.mem_cons.1 hs with rfl|h
  ·exact⟨hsm.2.1,hsm.2.2.1⟩
  ·exact hsm.2.2.2.1 s h
 have hst64:=hsm.2.2.2.2
 rw[←hspl]at f29 f30
 have hspl64:((x.1.rule,x.1.dot)::x.1.stack).length≤65:=by rw[hspl];omega
 generalize (x.1.rule,x.1.dot)::x.1.stack=sp at *
 have k04:=kC.trans k4
 have hw4:=k04.wf hw
 have hle3:=k3.le
 have hle4:=k4.le
 have hy34:=(k4.keep y3 y31).trans hy3c
 repeat (first|refine qqm rfl ?_|((first|refine qqr ?_|refine qqt ?_);simp only[SS,qx4,vconv,simprocAttr,ff_53]))
 have sp4:∀a b:Value,(([a,b]:List Value).drop 0).take 2=[a,b]:=fun _ _=>rfl
 refine WK.loop (fun kk s=>∃(j yo:Nat),Kp n H s.n s.H∧n≤yo∧yo<s.n∧yo≠yS∧yS<s.n∧s.H yS=.cells (sp.flatMap spC) 75 true∧s.H yo=.cells ((o2++(sp.take j).flatMap dSp).map bv8) 5 true∧s.f 5=.slice (some ⟨yo,0,none⟩) (o2++(sp.take j).flatMap dSp).length (o2++(sp.take j).flatMap dSp).length∧s.f 12=.slice (some ⟨u,k0,none⟩) L.length L.length∧s.f 13=.int .i64 (L.length:Nat)∧s.f 14=.int .i64 (i:Nat)∧s.f 29=.slice (some ⟨yS,0,none⟩) sp.length sp.length∧s.f 30=.int .i64 (sp.length:Nat)∧s.f 31=.int .i64 (j:Nat)∧j≤sp.length∧kk=sp.length - j) sp.length ?_ ?_
 ·refine⟨0,y3,k04,by omega,by show y3<n4;omega,by omega,hS1,hyS,?_,?_,f12,f13,f14,f29,f30,f31,Nat.zero_le _,rfl⟩
  ·simpa using hy34
  ·simpa using f5
 have hn3S:n≤yS:=by have:=hle2;omega
 clear f5 f12 f13 f14 f29 f30 f31 f hyS hy34 k4 hw4 k04 hle4 hS1 hy3c hw3 kC hb3 k3 hle3 y31 hb4 hst3
 rintro kk ⟨f,n5,H5⟩ ⟨j,yo,k5,hyo0,hyon,hyoS,hySn,hyS,hyo,f5,f12,f13,f14,f29,f30,f31,hjl,rfl⟩ ih2
 simp only at k5 hyon hySn hyS hyo f5 f12 f13 f14 f29 f30 f31 ih ih2
 have hw5:=k5.wf hw
 have hle5:=k5.le
 by_cases hj:j<sp.length
 case neg =>
  obtain rfl:j=sp.length:=by omega
  rw[List.take_length,←hrest]at hyo f5
  have hj':((sp.length:Int)<(sp.length:Int))=False:=eq_false (by omega)
  repeat (first|refine qqm rfl ?_|((first|refine qqr ?_|refine qqt ?_);simp only[SS,qx4,vconv,simprocAttr,f5,f14,f29,f30,f31,hj',hiw,ff_53]))
  refine ih (L.length - (i+1)) (by omega) _ ?_
  exact⟨i+1,yo,k5,hyo0,hyon,hyo,f5,f12,f13,rfl,hlt,rfl⟩
 have hj':((j:Int)<(sp.length:Int))=True:=eq_true (by omega)
 have hjw:IntKind.i64.wrap ((j:Int)+1)=((j+1:Nat):Int):=by rw[wrap_in (by omega) (by omega)];rfl
 have htj:(sp.take (j+1)).flatMap dSp=(sp.take j).flatMap dSp++dSp sp[j]:=by
  rw[List.take_add_one,List.getElem?_eq_getElem hj,List.flatMap_append];simp
 have hatj:=flat_at spC_len sp j hj
 have hfitj:j*2+2≤(sp.flatMap spC).length:=by rw[fm_len spC_len];omega
 have hsj:=hspm _ (List.getElem_mem hj)
 have htl:((sp.take j).flatMap dSp).length≤65*6:=Nat.le_trans (fmb_len fun s hs=>dSp_len (hspm s (List.mem_of_mem_take hs))) (Nat.mul_le_mul_right _ (by rw[List.length_take];omega))
 have ho2l:(o2++(sp.take j).flatMap dSp).length≤161000:=by rw[List.length_append,hln];omega
 have hnext:o2++(sp.take (j+1)).flatMap dSp=(((o2++(sp.take j).flatMap dSp)++[32]++dI sp[j].1)++[46])++dI sp[j].2:=by rw[htj];simp[dSp]
 have hs3:spC sp[j]=[.int .i64 sp[j].1,.int .i64 sp[j].2]:=rfl
 rw[hs3]at hatj
 have hd1:=dI_sml hsj.1
 have hd2:=dI_sml hsj.2
 generalize o2++(sp.take j).flatMap dSp=o3 at *
 generalize sp[j]=sj at *
 repeat refine qqn rfl ?_
 (refine qqr ?_;simp only[SS,qx4,vconv,simprocAttr,f29,f30,f31,hj',ff_53])
 repeat refine qqn rfl ?_
 refine qqm rfl ?_
 apply WK.skipSeq;apply WK.seq;apply WK.block;apply WK.seq
 (refine qqr ?_;simp only[SS,qx4,vconv,simprocAttr,f29,f31,hj,hyS,hatj,hfitj,sp2,sp4,hset_at,Nat.zero_add,ff_53])
 have k6:=k5.trans (Kp.new n5 H5 (.cells [.int .i64 sj.1,.int .i64 sj.2] 75 true))
 have hbox6:=hset_at H5 n5 (.cells [.int .i64 sj.1,.int .i64 sj.2] 75 true)
 have hyo6:hset H5 n5 (.cells [.int .i64 sj.1,.int .i64 sj.2] 75 true) yo=_:=(hset_ne _ _ _ (by omega)).trans hyo
 have hyS6:hset H5 n5 (.cells [.int .i64 sj.1,.int .i64 sj.2] 75 true) yS=_:=(hset_ne _ _ _ (by omega)).trans hyS
 generalize hset H5 n5 (.cells [.int .i64 sj.1,.int .i64 sj.2] 75 true)=H6 at *
 obtain⟨n6,hn6⟩:∃n6,n6=n5+1:=⟨_,rfl⟩
 rw[←hn6]at k6 ⊢
 have bl6:o3.length+1≤bigN:=by unfold bigN;omega
 have hct6:[n6].contains yo=false:=by simp;omega
 have hml6:(o3.map bv8).length=o3.length:=List.length_map _
 have htk6:(o3.map bv8).take o3.length=o3.map bv8:=List.take_of_length_le (by simp)
 have m16:∀A,hset H6 n6 A yo=_:=fun A=>(hset_ne _ _ _ (by omega)).trans hyo6
 have m26:∀A B C,hset (hset (hset H6 n6 A) yo B) (n6+1) C n5=.cells [.int .i64 sj.1,.int .i64 sj.2] 75 true:=fun A B C=>(hset_ne _ _ _ (by omega)).trans ((hset_ne _ _ _ (by omega)).trans ((hset_ne _ _ _ (by omega)).trans hbox6))
 have m36:∀A B C,hset (hset (hset H6 n6 A) yo B) (n6+1) C yS=.cells (sp.flatMap spC) 75 true:=fun A B C=>(hset_ne _ _ _ (by omega)).trans ((hset_ne _ _ _ (by omega)).trans ((hset_ne _ _ _ (by omega)).trans hyS6))
 have kB6:∀A C,Kp n H (n6+1+1) (hset (hset (hset H6 n6 A) yo .dead) (n6+1) C):=fun A C=>((k6.trans (Kp.new n6 _ A)).set (x:=yo) .dead hyo0 (by omega)).trans (Kp.new (n6+1) _ C)
 repeat refine qqn rfl ?_
 (refine WK.rgm [true,true,true,true,true,false] [(2,4)] (by kernel_rfl) (by kernel_rfl) ?_;simp only[wm,wl1_false,wl1_true,wl2_none,wl2_some,wl3_some,wl3_none,SS,forall_const,wx,tguard,acallee,top,tval,fput,tor,vsh,vbin,vconv,tload,tload2,tload3,tstore,tstore2,tstore3,Go.AM.splice,one,tidx,tidx2,tidx3,tfa,tfa2,tlen2,tlen3,talloc,still,still1,flat1,tbs,tbs2,afill,tap,tap2,tap3,tap4,tsrc,tsrc2,simprocAttr,f5,hbox6,m16,m26,bl6,hct6,hml6,htk6,hset_at,Nat.le_refl,List.drop_zero,Nat.mul_one,Nat.zero_add,ff_53])
 have hc6:=appint_gives (l:=o3++[32]) (yd:=n6+1) (n:=n6+1+1) (H:=hset (hset (hset H6 n6 (.cells [.int .u8 32] 5 true)) yo .dead) (n6+1) (.cells (o3.map bv8++List.take 1 [.int .u8 32]) 5 true)) hsj.1.1 hsj.1.2 (by rw[List.map_append];exact hset_at _ _ _) (Nat.lt_succ_self _) (by simp;omega)
 rw[List.length_append,List.length_singleton]at hc6
 refine AtCallL.byX hc6 ?_
 rintro _ n7 H7 kk7 ⟨y7,rfl,y70,y71,hy77⟩
 have hle7:=kk7.le
 have hbox7:=(kk7.keep n5 (by omega) (by omega)).trans (m26 (.cells [.int .u8 32] 5 true) .dead (.cells (o3.map bv8++List.take 1 [.int .u8 32]) 5 true))
 have hyS7:=(kk7.keep yS (by omega) (by omega)).trans (m36 (.cells [.int .u8 32] 5 true) .dead (.cells (o3.map bv8++List.take 1 [.int .u8 32]) 5 true))
 have k7:Kp n H n7 H7:=((kB6 _ _).kx (X:=fun z=>z=n6+1)).trans kk7 |>.kp fun z hz e=>by omega
 simp only[wl,wl1_false,wl1_true,wl2_none,wl2_some,wl3_some,wl3_none,SS,forall_const,wx,tguard,acallee,top,tval,fput,tor,vsh,vbin,vconv,tload,tload2,tload3,tstore,tstore2,tstore3,Go.AM.splice,one,tidx,tidx2,tidx3,tfa,tfa2,tlen2,tlen3,talloc,still,still1,flat1,tbs,tbs2,afill,tap,tap2,tap3,tap4,tsrc,tsrc2,simprocAttr,wm,ff_53]
 refine⟨light_cons rfl rfl ?_ light_nil,?_⟩
 ·exact lapart_wr (by simp;omega)
 have ho4:(o3++[32]++dI sj.1).length≤161010:=by simp;omega
 generalize o3++[32]++dI sj.1=o4 at *
 have bl7:o4.length+1≤bigN:=by unfold bigN;omega
 have hct7:[n7].contains y7=false:=by simp;omega
 have hml7:(o4.map bv8).length=o4.length:=List.length_map _
 have htk7:(o4.map bv8).take o4.length=o4.map bv8:=List.take_of_length_le (by simp)
 have m17:∀A,hset H7 n7 A y7=_:=fun A=>(hset_ne _ _ _ (by omega)).trans hy77
 have m27:∀A B C,hset (hset (hset H7 n7 A) y7 B) (n7+1) C n5=.cells [.int .i64 sj.1,.int .i64 sj.2] 75 true:=fun A B C=>(hset_ne _ _ _ (by omega)).trans ((hset_ne _ _ _ (by omega)).trans ((hset_ne _ _ _ (by omega)).trans hbox7))
 have m37:∀A B C,hset (hset (hset H7 n7 A) y7 B) (n7+1) C yS=.cells (sp.flatMap spC) 75 true:=fun A B C=>(hset_ne _ _ _ (by omega)).trans ((hset_ne _ _ _ (by omega)).trans ((hset_ne _ _ _ (by omega)).trans hyS7))
 have kB7:∀A C,Kp n H (n7+1+1) (hset (hset (hset H7 n7 A) y7 .dead) (n7+1) C):=fun A C=>((k7.trans (Kp.new n7 _ A)).set (x:=y7) .dead (by omega) (by omega)).trans (Kp.new (n7+1) _ C)
 repeat refine qqn rfl ?_
 (refine WK.rgm [true,true,true,true,true,false] [(2,4)] (by kernel_rfl) (by kernel_rfl) ?_;simp only[wm,wl1_false,wl1_true,wl2_none,wl2_some,wl3_some,wl3_none,SS,forall_const,wx,tguard,acallee,top,tval,fput,tor,vsh,vbin,vconv,tload,tload2,tload3,tstore,tstore2,tstore3,Go.AM.splice,one,tidx,tidx2,tidx3,tfa,tfa2,tlen2,tlen3,talloc,still,still1,flat1,tbs,tbs2,afill,tap,tap2,tap3,tap4,tsrc,tsrc2,simprocAttr,hset_at,hbox7,m17,m27,bl7,hct7,hml7,htk7,hset_at,Nat.le_refl,List.drop_zero,Nat.mul_one,Nat.zero_add,ff_53])
 have hc7:=appint_gives (l:=o4++[46]) (yd:=n7+1) (n:=n7+1+1) (H:=hset (hset (hset H7 n7 (.cells [.int .u8 46] 5 true)) y7 .dead) (n7+1) (.cells (o4.map bv8++List.take 1 [.int .u8 46]) 5 true)) hsj.2.1 hsj.2.2 (by rw[List.map_append];exact hset_at _ _ _) (Nat.lt_succ_self _) (by simp;omega)
 rw[List.length_append,List.length_singleton]at hc7
 refine AtCallL.byX hc7 ?_
 rintro _ n8 H8 kk8 ⟨y8,rfl,y80,y81,hy88⟩
 have hle8:=kk8.le
 have hbox8:=(kk8.keep n5 (by omega) (by omega)).trans (m27 (.cells [.int .u8 46] 5 true) .dead (.cells (o4.map bv8++List.take 1 [.int .u8 46]) 5 true))
 have hyS8:=(kk8.keep yS (by omega) (by omega)).trans (m37 (.cells [.int .u8 46] 5 true) .dead (.cells (o4.map bv8++List.take 1 [.int .u8 46]) 5 true))
 have k8:Kp n H n8 H8:=((kB7 _ _).kx (X:=fun z=>z=n7+1)).trans kk8 |>.kp fun z hz e=>by omega
 simp only[wl,wl1_false,wl1_true,wl2_none,wl2_some,wl3_some,wl3_none,SS,forall_const,wx,tguard,acallee,top,tval,fput,tor,vsh,vbin,vconv,tload,tload2,tload3,tstore,tstore2,tstore3,Go.AM.splice,one,tidx,tidx2,tidx3,tfa,tfa2,tlen2,tlen3,talloc,still,still1,flat1,tbs,tbs2,afill,tap,tap2,tap3,tap4,tsrc,tsrc2,simprocAttr,wm,ff_53]
 refine⟨light_cons rfl rfl ?_ light_nil,?_⟩
 ·exact lapart_wr (by simp;omega)
 rw[←hnext]at *
 repeat (first|refine qqm rfl ?_|((first|refine qqr ?_|refine qqt ?_);simp only[SS,qx4,vconv,simprocAttr,f31,hjw,ff_53]))
 refine ih2 (sp.length - (j+1)) (by omega) _ ?_
 exact⟨j+1,y8,k8,by omega,y81,by omega,by show yS<n8;omega,hyS8,hy88,rfl,f12,f13,f14,f29,f30,rfl,hj,rfl⟩
end Go.Proofs.YtjlgpanihjnaeaaGreatDoor
