/- A part of a proof. Its conditions: none. -/
import Derived.Test.YtjlgpanihjnaeaaGreatDoorAmXLfRight
import Derived.Test.YtjlgpanihjnaeaaGreatDoorAmD
import Derived.Test.YtjlgpanihjnaeaaGreatDoorAmXLfNan
import Derived.Test.YtjlgpanihjnaeaaGreatDoorAmXAtInsB
set_option linter.all false
namespace Go.Proofs.YtjlgpanihjnaeaaGreatDoor
open Go.AM
set_option maxRecDepth 100000
theorem half_w{i j:Nat}(h:i+j<9223372036854775808):IntKind.i64.wrap ((i:Int)+(j:Int))=((i+j:Nat):Int):=by rw[wrap_in (by omega) (by omega)];rfl
theorem half_u{i:Nat}(h:i<9223372036854775808):IntKind.u64.wrap (i:Int)=(i:Int):=by
 simp only[IntKind.wrap,IntKind.signed,IntKind.bits]
 simp
 omega
theorem half_d(i:Nat):(i:Int).fdiv (2 ^ (min 1 (IntKind.bits .u64)))=((i / 2:Nat):Int):=by
 have h:min 1 (IntKind.bits .u64)=1:=rfl
 rw[h,Int.fdiv_eq_ediv_of_nonneg _ (by decide)]
 simp
theorem half_i{i:Nat}(h:i<9223372036854775808):IntKind.i64.wrap (i:Int)=(i:Int):=wrap_in (by omega) (by omega)
theorem search_gives{F l n:Nat}{H:Heap}{captured:List Value}(q:Nat→Bool)(hl:l≤4294967296)
  (hF:∀i n1 H1,i<l→Kp n H n1 H1→Gives Tryz.prog F (.int .i64 (i:Nat)::captured) n1 H1 fun v n' H'=>v=.bool (q i)∧n'=n1∧H'=H1) :
  Gives Tryz.prog 54 [.int .i64 (l:Nat),.func (.func F) #[] captured.toArray] n H fun v n' H'=>∃k:Nat,v=.int .i64 (k:Nat)∧n'=n∧H'=H∧k≤l∧(∀p,k=p+1→q p=false)∧(k<l→q k=true):=by
 refine Gives.of orders ok54 (Nat.le_of_ble_eq_true rfl) ?_
 repeat (first|refine qqm rfl ?_|((first|refine qqr ?_|refine qqt ?_);simp only[SS,qx11,vconv,vun,simprocAttr,ff_54]))
 refine WK.loop (fun k s=>∃i j:Nat,s.n=n∧s.H=H∧s.f 1=.func (.func F) #[] captured.toArray∧s.f 5=.int .i64 (i:Nat)∧s.f 6=.int .i64 (j:Nat)∧i≤j∧j≤l∧(∀p,i=p+1→q p=false)∧(j<l→q j=true)∧k=j - i) l ?_ ?_
 ·exact⟨0,l,rfl,rfl,rfl,rfl,rfl,Nat.zero_le _,Nat.le_refl _,(fun p h=>by omega),(fun h=>absurd h (Nat.lt_irrefl _)),rfl⟩
 rintro kk ⟨f,n',H'⟩ ⟨i,j,rfl,rfl,f1,f5,f6,hij,hjl,hlo,hhi,rfl⟩ ih
 simp only at f1 f5 f6 ih hF
 by_cases h:i<j
 ·have hw:=half_w (i:=i) (j:=j) (by omega)
  have hu:=half_u (i:=i+j) (by omega)
  have hd:=half_d (i+j)
  have hi:=half_i (i:=(i+j) / 2) (by omega)
  have hm1:(i+j) / 2<j:=by omega
  have hm2:i≤(i+j) / 2:=by omega
  have hmw:IntKind.i64.wrap ((((i+j) / 2:Nat):Int)+1)=(((i+j) / 2+1:Nat):Int):=by rw[wrap_in (by omega) (by omega)];rfl
  generalize (i+j) / 2=m at *
  repeat (first|refine qqm rfl ?_|((first|refine qqr ?_|refine qqt ?_);simp only[SS,qx11,vconv,vun,simprocAttr,f1,f5,f6,h,hw,hu,hd,hi,List.nil_append,List.cons_append,ff_54]))
  refine AtCall.by (hF m _ _ (by omega) (Kp.refl _ _)) ?_
  rintro v n2 H2 hk2 ⟨rfl,rfl,rfl⟩
  cases hq:q m
  ·simp only[SS,qx11,vconv,vun,simprocAttr,ff_54]
   repeat (first|refine qqm rfl ?_|((first|refine qqr ?_|refine qqt ?_);simp only[SS,qx11,vconv,vun,simprocAttr,hmw,ff_54]))
   refine ih (j - (m+1)) (by omega) _ ⟨m+1,j,rfl,rfl,f1,rfl,f6,hm1,hjl,(fun p hp=>?_),hhi,rfl⟩
   have:p=m:=by omega
   rw[this];exact hq
  ·simp only[SS,qx11,vconv,vun,simprocAttr,ff_54]
   repeat (first|refine qqm rfl ?_|((first|refine qqr ?_|refine qqt ?_);simp only[SS,qx11,vconv,vun,simprocAttr,ff_54]))
   refine ih (m - i) (by omega) _ ⟨i,m,rfl,rfl,f1,f5,rfl,hm2,by omega,hlo,(fun _=>hq),rfl⟩
 ·have hij':i=j:=by omega
  subst hij'
  repeat (first|refine qqm rfl ?_|((first|refine qqr ?_|refine qqt ?_);simp only[SS,qx11,vconv,vun,simprocAttr,f1,f5,f6,h,ff_54]))
  first|refine qqf ?_ ?_|refine qqg ?_ ?_
  ·exact fun _ _=>rfl
  ·simp only[packed,qv,Nat.reduceEqDiff,↓reduceIte,ff_54]
   exact⟨i,rfl,trivial,trivial,hjl,hlo,hhi⟩
theorem rules1_gives{pt pv pr:Option Addr}{g:Gram}{v:Int}{i x y n:Nat}{H:Heap}(hr:RR H pr g.rules)(hx:H x=.cells (gcells pt pv pr g) 25 true)(hy:H y=.cells [.int .i64 v] 3 true)(hi:i<g.rules.length) :
  Gives Tryz.prog 55 [.int .i64 (i:Nat),.pointer (some ⟨x,0,none⟩),.pointer (some ⟨y,0,none⟩)] n H fun u n' H'=>u=.bool (decide (v≤(g.rules.map GRule.left).getD i 0))∧n'=n∧H'=H:=by
 refine Gives.of orders ok55 (Nat.le_of_ble_eq_true rfl) ?_
 obtain⟨z,k,cs,ty,own,p,rfl,hz,c0,c1,c2,hp⟩:=hr.at hi
 repeat (first|refine qqm rfl ?_|((first|refine qqr ?_|refine qqt ?_);simp only[SS,qg0,qgb,qgl,qgi,qgf,tor,simprocAttr,hx,gc_2,hy,hi,hz,c0,ff_55]))
 first|refine qqf ?_ ?_|refine qqg ?_ ?_
 ·exact fun _ _=>rfl
 ·simp only[packed,qv,Nat.reduceEqDiff,↓reduceIte,ff_55]
  simp[hi]
theorem rise_of {l : List GRule} (h : ∀ (i : Nat) (r r' : GRule), l[i + 1]? = some r → l[i]? = some r' → r'.left ≤ r.left) : ∀ (j i : Nat) (hj : j < l.length) (_hi : i ≤ j), (l[i]'(by omega)).left ≤ l[j].left := by
  intro j
  induction j with
  | zero => intro i hj hi; have : i = 0 := by omega
            subst this; exact Int.le_refl _
  | succ j ih =>
    intro i hj hi
    by_cases e : i = j + 1
    · subst e; exact Int.le_refl _
    · exact Int.le_trans (ih i (by omega) (by omega)) (h j _ _ (List.getElem?_eq_getElem hj) (List.getElem?_eq_getElem (show j < l.length by omega)))
theorem RightOK.rise{g:Gram}(ok:RightOK g){i j:Nat}(hj:j<g.rules.length)(hi:i≤j):(g.rules[i]'(by omega)).left≤g.rules[j].left:=by
 refine rise_of (fun i r r' h h'=>?_) j i hj hi
 obtain⟨hl,rfl⟩:=List.getElem?_eq_some_iff.1 h
 exact(ok.rule (i+1) hl).up i rfl r' h'
set_option maxHeartbeats 4000000 in
theorem rules_gives{gv:Value}{g:Gram}{v:Int}{n:Nat}{H:Heap}(hw:WF n H)(hg:RG H gv g)(ok:RightOK g) :
  Gives Tryz.prog 35 [gv,.int .i64 v] n H fun u _ _=>∃a b:Nat,u=.tuple #[.int .i64 (a:Nat),.int .i64 (b:Nat)]∧a≤b∧b≤g.rules.length∧∀(i:Nat) (h:i<g.rules.length),g.rules[i].left=v↔a≤i∧i<b:=by
 obtain⟨pt,pv,pr,rfl,ht,hv,hr⟩:=hg
 refine Gives.of orders ok35 (Nat.le_of_ble_eq_true rfl) ?_
 have hrl:=ok.rules
 have hk:=(Kp.new n H (.cells (gcells pt pv pr g) 25 true)).trans (Kp.new (n+1) _ (.cells [.int .i64 v] 3 true))
 have b0:(hset (hset H n (.cells (gcells pt pv pr g) 25 true)) (n+1) (.cells [.int .i64 v] 3 true)) n=_:=(hset_ne _ _ _ (by omega)).trans (hset_at _ _ _)
 have b1:(hset (hset H n (.cells (gcells pt pv pr g) 25 true)) (n+1) (.cells [.int .i64 v] 3 true)) (n+1)=_:=hset_at _ _ _
 replace hr:=hr.mono hw hk
 repeat refine qqn rfl ?_
 (refine qqr ?_;simp only[SS,qx0,simprocAttr,box_cells,box_one,ff_35])
 generalize hset (hset H n (.cells (gcells pt pv pr g) 25 true)) (n+1) (.cells [.int .i64 v] 3 true)=H1 at *
 repeat refine qqn rfl ?_
 (refine qqr ?_;simp only[SS,qx0,simprocAttr,b0,gc_2,ff_35])
 have hs:=search_gives (F:=55) (l:=g.rules.length) (n:=n+1+1) (H:=H1) (captured:=[.pointer (some ⟨n,0,none⟩),.pointer (some ⟨n+1,0,none⟩)]) (fun i=>decide (v≤(g.rules.map GRule.left).getD i 0)) (by omega)
  (fun i n1 H2 hi k=>rules1_gives (hr.mono (hk.wf hw) k) ((k.keep n (by omega)).trans b0) ((k.keep (n+1) (by omega)).trans b1) hi)
 refine AtCall.by hs ?_
 rintro u n2 H2 k2 ⟨a,rfl,rfl,rfl,hal,hlo,hhi⟩
 simp only[SS,qx0,simprocAttr,ff_35]
 repeat (first|refine qqm rfl ?_|((first|refine qqr ?_|refine qqt ?_);simp only[SS,qx0,simprocAttr,ff_35]))
 have hleft:∀i (h:i<g.rules.length),(g.rules.map GRule.left).getD i 0=g.rules[i].left:=fun i h=>by simp[h]
 have hbelow:∀i (h:i<g.rules.length),i<a→g.rules[i].left<v:=by
  intro i h hia
  obtain⟨p,rfl⟩:∃p,a=p+1:=⟨a - 1,by omega⟩
  have h1:=hlo p rfl
  rw[hleft p (by omega),decide_eq_false_iff_not]at h1
  have h2:=ok.rise (i:=i) (j:=p) (by omega) (by omega)
  omega
 have habove:∀i (h:i<g.rules.length),a≤i→v≤g.rules[i].left:=by
  intro i h hai
  have h1:=hhi (by omega)
  rw[hleft a (by omega),decide_eq_true_eq]at h1
  have h2:=ok.rise (i:=a) (j:=i) h hai
  omega
 refine WK.loop (fun k s=>∃b:Nat,s.n=n+1+1∧s.H=H2∧s.f 2=.pointer (some ⟨n,0,none⟩)∧s.f 3=.pointer (some ⟨n+1,0,none⟩)∧s.f 6=.int .i64 (a:Nat)∧s.f 7=.int .i64 (b:Nat)∧a≤b∧b≤g.rules.length∧(∀(i:Nat) (h:i<g.rules.length),a≤i→i<b→g.rules[i].left=v)∧k=g.rules.length - b) (g.rules.length - a) ?_ ?_
 ·exact⟨a,rfl,rfl,rfl,rfl,rfl,rfl,Nat.le_refl _,hal,(fun i h h1 h2=>by omega),rfl⟩
 rintro kk ⟨f,n',H'⟩ ⟨b,rfl,rfl,f2,f3,f6,f7,hab,hbl,hall,rfl⟩ ih
 simp only at f2 f3 f6 f7 ih b0 b1 hr
 have fini:∀i,b≤i→(h:i<g.rules.length)→(∀h:b<g.rules.length,g.rules[b].left≠v)→g.rules[i].left≠v:=by
  intro i hbi h hne e
  have h1:=ok.rise (i:=b) (j:=i) h hbi
  have h2:=habove b (by omega) hab
  exact hne (by omega) (by omega)
 by_cases hb:b<g.rules.length
 ·have hbw:IntKind.i64.wrap ((b:Int)+1)=((b+1:Nat):Int):=by rw[wrap_in (by omega) (by omega)];rfl
  obtain⟨z,k,cs,ty,own,p,rfl,hz,c0,c1,c2,hp⟩:=hr.at hb
  by_cases hv':g.rules[b].left=v
  ·repeat (first|refine qqm rfl ?_|((first|refine qqr ?_|refine qqt ?_);simp only[SS,qx0,simprocAttr,f2,f3,f6,f7,b0,b1,gc_2,hb,hz,c0,hv',ff_35]))
   refine ih (g.rules.length - (b+1)) (by omega) _ ⟨b+1,rfl,rfl,f2,f3,f6,?_,by omega,hb,(fun i h h1 h2=>?_),rfl⟩
   ·simp only[packed,qv,Nat.reduceEqDiff,↓reduceIte,f7,hbw,ff_35]
   ·by_cases e:i=b
    ·subst e;exact hv'
    ·exact hall i h h1 (by omega)
  ·repeat (first|refine qqm rfl ?_|((first|refine qqr ?_|refine qqt ?_);simp only[SS,qx0,simprocAttr,f2,f3,f6,f7,b0,b1,gc_2,hb,hz,c0,hv',ff_35]))
   first|refine qqf ?_ ?_|refine qqg ?_ ?_
   ·exact fun x hx=>hk.keep x hx
   ·simp only[packed,qv,Nat.reduceEqDiff,↓reduceIte,ff_35]
    refine⟨a,b,rfl,hab,hbl,fun i h=>⟨fun e=>?_,fun⟨h1,h2⟩=>hall i h h1 h2⟩⟩
    refine⟨?_,?_⟩
    ·apply Classical.byContradiction;intro hc;have:=hbelow i h (by omega);omega
    ·apply Classical.byContradiction;intro hc;exact fini i (by omega) h (fun _=>hv') e
 ·repeat (first|refine qqm rfl ?_|((first|refine qqr ?_|refine qqt ?_);simp only[SS,qx0,simprocAttr,f2,f3,f6,f7,b0,b1,gc_2,hb,ff_35]))
  first|refine qqf ?_ ?_|refine qqg ?_ ?_
  ·exact fun x hx=>hk.keep x hx
  ·simp only[packed,qv,Nat.reduceEqDiff,↓reduceIte,ff_35]
   refine⟨a,b,rfl,hab,hbl,fun i h=>⟨fun e=>?_,fun⟨h1,h2⟩=>hall i h h1 h2⟩⟩
   refine⟨?_,by omega⟩
   apply Classical.byContradiction;intro hc;have:=hbelow i h (by omega);omega
end Go.Proofs.YtjlgpanihjnaeaaGreatDoor

namespace Go.Proofs.YtjlgpanihjnaeaaGreatDoor
open Go.AM
set_option maxRecDepth 100000
structure CL(H:Heap)(p:Option Addr)(L:List (Cfg × Option Addr)):Prop where
 row:RN 4 ccell H p L
 st:∀x∈L,StOK H x
theorem CL.mono{n n':Nat}{H H':Heap}{p:Option Addr}{L:List (Cfg × Option Addr)}(h:CL H p L)(hw:WF n H)(hk:Kp n H n' H'):CL H' p L:=⟨h.row.mono hw hk,fun x hx=>(h.st x hx).mono hw hk⟩
def Srt(L:List (Cfg × Option Addr)):Prop:=L.Pairwise fun a b=>cmpC a.1 b.1<0
theorem Srt.lt{L:List (Cfg × Option Addr)}(h:Srt L){i j:Nat}(hj:j<L.length)(hij:i<j):cmpC (L[i]'(by omega)).1 L[j].1<0:=List.pairwise_iff_getElem.1 h i j (by omega) hj hij
theorem cmpC_lt{a b c:Cfg}(h:cmpC a b<0)(k:cmpC b c≤0):cmpC a c<0:=by
 have h1:=cmpC_trans (by omega:cmpC a b≤0) k
 by_cases e:cmpC a c=0
 ·rw[cmpC_zero]at e
  subst e
  have:=cmpC_neg a b
  omega
 ·omega
set_option maxHeartbeats 8000000 in
theorem bin_gives{p:Option Addr}{L:List (Cfg × Option Addr)}{x:Cfg × Option Addr}{n:Nat}{H:Heap}(hw:WF n H)(hL:CL H p L)(hx:StOK H x)(hs:Srt L)(hl:L.length≤65536)(hsl:∀y∈L,y.1.stack.length≤65536) :
  Gives Tryz.prog 63 [.slice p L.length L.length,.agg (ccell x).toArray,.func (.func 64) #[] #[]] n H fun v n' H'=>∃(i:Nat) (b:Bool),v=.tuple #[.int .i64 (i:Nat),.bool b]∧i≤L.length ∧
   (∀k (h:k<L.length),k<i→cmpC L[k].1 x.1<0)∧(∀k (h:k<L.length),i≤k→0≤cmpC L[k].1 x.1)∧(b=true↔x.1∈L.map (·.1)):=by
 refine Gives.of orders ok63 (Nat.le_of_ble_eq_true rfl) ?_
 have v1:∀s,vcells (.agg (ccell s).toArray)=ccell s:=fun _=>rfl
 have v2:∀s,(ccell s).all one=true:=fun _=>rfl
 have v5:∀s,(ccell s).length=4:=fun _=>rfl
 have v6:∀s,((ccell s).drop 0).take 4=ccell s:=fun _=>rfl
 have k1:=Kp.new n H (.cells (ccell x) 82 true)
 have hb:=hset_at H n (.cells (ccell x) 82 true)
 repeat refine qqn rfl ?_
 (refine qqr ?_;simp only[SS,qx32,vconv,simprocAttr,abox,v1,v2,ff_63])
 generalize hset H n (.cells (ccell x) 82 true)=H1 at *
 have hw1:=k1.wf hw
 have hL1:=hL.mono hw k1
 have hx1:=hx.mono hw k1
 repeat (first|refine qqm rfl ?_|((first|refine qqr ?_|refine qqt ?_);simp only[SS,qx32,vconv,simprocAttr,ff_63]))
 refine WK.loop (fun k s=>∃i j:Nat,Kp (n+1) H1 s.n s.H∧s.f 0=.slice p L.length L.length∧s.f 2=.func (.func 64) #[] #[]∧s.f 4=.pointer (some ⟨n,0,none⟩)∧s.f 8=.int .i64 (L.length:Nat)∧s.f 9=.int .i64 (i:Nat)∧s.f 10=.int .i64 (j:Nat)∧i≤j∧j≤L.length ∧
  (∀k (h:k<L.length),k<i→cmpC L[k].1 x.1<0)∧(∀k (h:k<L.length),j≤k→0≤cmpC L[k].1 x.1)∧k=j - i) L.length ?_ ?_
 ·exact⟨0,L.length,Kp.refl _ _,rfl,rfl,rfl,rfl,rfl,rfl,Nat.zero_le _,Nat.le_refl _,(fun k h h'=>absurd h' (Nat.not_lt_zero _)),(fun k h h'=>absurd h (by omega)),rfl⟩
 rintro kk ⟨f,n2,H2⟩ ⟨i,j,k2,f0,f2,f4,f8,f9,f10,hij,hjl,hlo,hhi,rfl⟩ ih
 simp only at k2 f0 f2 f4 f8 f9 f10 ih
 have hw2:=k2.wf hw1
 have hle2:=k2.le
 have hb2:=(k2.keep n (by omega)).trans hb
 have hL2:=hL1.mono hw1 k2
 have hx2:=hx1.mono hw1 k2
 by_cases h:i<j
 ·have hwr:=half_w (i:=i) (j:=j) (by omega)
  have hu:=half_u (i:=i+j) (by omega)
  have hd:=half_d (i+j)
  have hi:=half_i (i:=(i+j) / 2) (by omega)
  have hm1:(i+j) / 2<j:=by omega
  have hm2:i≤(i+j) / 2:=by omega
  have hmw:IntKind.i64.wrap ((((i+j) / 2:Nat):Int)+1)=(((i+j) / 2+1:Nat):Int):=by rw[wrap_in (by omega) (by omega)];rfl
  generalize (i+j) / 2=m at *
  have hml:m<L.length:=by omega
  obtain⟨z,kz,cs,tz,oz,hp,hz,ez,lz⟩:=hL2.row.at ccell_len hml
  rw[hp]at f0
  have hmem:=List.getElem_mem hml
  have hcg:=cmpC_gives (x:=L[m]) (y:=x) hw2 (hL2.st _ hmem) hx2 (by have:=hsl _ hmem;unfold maxL;omega)
  repeat (first|refine qqm rfl ?_|((first|refine qqr ?_|refine qqt ?_);simp only[SS,qx32,vconv,simprocAttr,f0,f2,f4,f8,f9,f10,h,hwr,hu,hd,hi,hml,hz,ez,lz,hb2,v5,v6,ff_63]))
  refine AtCall.by hcg ?_
  rintro v n3 H3 k3 rfl
  have k23:=k2.trans k3
  have hsm:=cmpC_small L[m].1 x.1
  by_cases hq:cmpC L[m].1 x.1<0
  ·simp only[SS,qx32,vconv,simprocAttr,hq,decide_true,ff_63]
   repeat (first|refine qqm rfl ?_|((first|refine qqr ?_|refine qqt ?_);simp only[SS,qx32,vconv,simprocAttr,hmw,ff_63]))
   exact ih (j - (m+1)) (by omega) _ ⟨m+1,j,k23,by rw[hp];exact f0,f2,f4,f8,rfl,f10,hm1,hjl,(fun k hk hk'=>by
    by_cases e:k=m
    ·subst e;exact hq
    ·exact cmpC_lt (hs.lt hml (by omega)) (by omega)),hhi,rfl⟩
  ·simp only[SS,qx32,vconv,simprocAttr,hq,decide_false,ff_63]
   repeat (first|refine qqm rfl ?_|((first|refine qqr ?_|refine qqt ?_);simp only[SS,qx32,vconv,simprocAttr,ff_63]))
   exact ih (m - i) (by omega) _ ⟨i,m,k23,by rw[hp];exact f0,f2,f4,f8,f9,rfl,hm2,by omega,hlo,(fun k hk hk'=>by
    by_cases e:k=m
    ·subst e;omega
    ·have h1:=hs.lt hk (by omega:m<k)
     by_cases h2:cmpC L[k].1 x.1<0
     ·have:=cmpC_lt h1 (by omega:cmpC L[k].1 x.1≤0)
      omega
     ·omega),rfl⟩
 ·have hij':i=j:=by omega
  subst hij'
  have hnot:∀k (h:k<L.length),k<i→L[k].1≠x.1:=fun k hk hki e=>by
   have:=hlo k hk hki
   rw[cmpC_zero.2 e]at this;omega
  by_cases hil:i<L.length
  ·obtain⟨z,kz,cs,tz,oz,hp,hz,ez,lz⟩:=hL2.row.at ccell_len hil
   rw[hp]at f0
   have hmem:=List.getElem_mem hil
   have hcg:=cmpC_gives (x:=L[i]) (y:=x) hw2 (hL2.st _ hmem) hx2 (by have:=hsl _ hmem;unfold maxL;omega)
   repeat (first|refine qqm rfl ?_|((first|refine qqr ?_|refine qqt ?_);simp only[SS,qx32,vconv,simprocAttr,f0,f2,f4,f8,f9,f10,Nat.lt_irrefl,Int.lt_irrefl,hil,hz,ez,lz,hb2,v5,v6,ff_63]))
   refine AtCall.by hcg ?_
   rintro v n3 H3 k3 rfl
   simp only[SS,qx32,vconv,simprocAttr,ff_63]
   repeat (first|refine qqm rfl ?_|((first|refine qqr ?_|refine qqt ?_);simp only[SS,qx32,vconv,simprocAttr,ff_63]))
   first|refine qqf ?_ ?_|refine qqg ?_ ?_
   ·exact((k1.trans k2).trans k3).keep
   ·simp only[packed,qv,Nat.reduceEqDiff,↓reduceIte,ff_63]
    refine⟨i,decide (cmpC L[i].1 x.1=0),?_,by omega,hlo,hhi,?_⟩
    ·by_cases e:cmpC L[i].1 x.1=0 <;> simp[e]
    ·rw[decide_eq_true_eq,cmpC_zero,List.mem_map]
     constructor
     ·intro e;exact⟨_,hmem,e⟩
     ·rintro⟨y,hy,e⟩
      obtain⟨k,hk,rfl⟩:=List.getElem_of_mem hy
      by_cases h1:k<i
      ·exact absurd e (hnot k hk h1)
      ·by_cases h2:k=i
       ·subst h2;exact e
       ·have h3:=hs.lt hk (by omega:i<k)
        rw[e]at h3
        have h4:=hhi i hil (Nat.le_refl _)
        omega
  ·have hil':((i:Int)<(L.length:Int))=False:=eq_false (by omega)
   repeat (first|refine qqm rfl ?_|((first|refine qqr ?_|refine qqt ?_);simp only[SS,qx32,vconv,simprocAttr,f0,f2,f4,f8,f9,f10,Nat.lt_irrefl,Int.lt_irrefl,hil,hil',ff_63]))
   first|refine qqf ?_ ?_|refine qqg ?_ ?_
   ·exact(k1.trans k2).keep
   ·simp only[packed,qv,Nat.reduceEqDiff,↓reduceIte,ff_63]
    refine⟨i,false,?_,by omega,hlo,hhi,?_⟩
    ·simp
    ·constructor
     ·intro e;cases e
     ·intro e
      obtain⟨y,hy,e⟩:=List.mem_map.1 e
      obtain⟨k,hk,rfl⟩:=List.getElem_of_mem hy
      exact absurd e (hnot k hk (by omega))
end Go.Proofs.YtjlgpanihjnaeaaGreatDoor

namespace Go.Proofs.YtjlgpanihjnaeaaGreatDoor
open Go.AM
set_option maxRecDepth 100000
def OC(H:Heap)(y:Nat)(L:List (Cfg × Option Addr)):Prop:=L≠[]→∃cs,H y=.cells cs 82 true∧L.length*4≤cs.length∧cs.take (L.length*4)=L.flatMap ccell
theorem OC.of{H:Heap}{y:Nat}{L:List (Cfg × Option Addr)}(h:H y=.cells (L.flatMap ccell) 82 true):OC H y L:=fun _=>⟨_,h,by rw[fm_len ccell_len];exact Nat.le_refl _,List.take_of_length_le (by rw[fm_len ccell_len];exact Nat.le_refl _)⟩
theorem OC.nil{H:Heap}{y:Nat}:OC H y []:=fun h=>absurd rfl h
theorem OC.keep{H H':Heap}{y:Nat}{L:List (Cfg × Option Addr)}(h:OC H y L)(hk:L≠[]→H y≠.dead→H' y=H y):OC H' y L:=fun hn=>by
 obtain⟨cs,h1,h2,h3⟩:=h hn
 exact⟨cs,(hk hn (by rw[h1];intro e;cases e)).trans h1,h2,h3⟩
theorem OC.rn{H:Heap}{y:Nat}{L:List (Cfg × Option Addr)}(h:OC H y L):RN 4 ccell H (slp y L.length) L:=by
 cases L with
 | nil=>exact .inl ⟨rfl,rfl⟩
 | cons a L =>
  obtain⟨cs,h1,h2,h3⟩:=h (by simp)
  exact .inr ⟨y,0,cs,_,true,rfl,h1,by omega,h3⟩
theorem flat_ins{L:List (Cfg × Option Addr)}{x:Cfg × Option Addr}{i:Nat}{cs:List Value}(hi:i≤L.length)(h:cs.take (L.length*4)=L.flatMap ccell):insCs 4 L.length i cs (ccell x)=(L.take i++[x]++L.drop i).flatMap ccell:=by
 unfold insCs
 rw[h,List.flatMap_append,List.flatMap_append,List.flatMap_singleton]
 have h1:(L.flatMap ccell).take (i*4)=(L.take i).flatMap ccell:=by
  conv=>lhs;rw[←List.take_append_drop i L,List.flatMap_append]
  rw[List.take_append_of_le_length (by rw[fm_len ccell_len,List.length_take];omega),List.take_of_length_le (by rw[fm_len ccell_len,List.length_take];omega)]
 have h2:(L.flatMap ccell).drop (i*4)=(L.drop i).flatMap ccell:=by
  conv=>lhs;rw[←List.take_append_drop i L,List.flatMap_append]
  have h3:((L.take i).flatMap ccell).length=i*4:=by rw[fm_len ccell_len,List.length_take];omega
  rw[List.drop_append,h3,List.drop_of_length_le (by omega),Nat.sub_self];rfl
 rw[h1,h2]
set_option maxHeartbeats 8000000 in
theorem insert_gives{y xo i n:Nat}{H:Heap}{L:List (Cfg × Option Addr)}{x:Cfg × Option Addr}(hw:WF n H)(hy:OC H y L)(hx:H xo=.cells (ccell x) 82 true)(hxy:L≠[]→xo≠y)(hi:i≤L.length)(hl:L.length≤65536) :
  GivesX Tryz.prog (fun z=>L≠[]∧z=y) 65 [sl y L.length,.int .i64 (i:Nat),.slice (some ⟨xo,0,none⟩) 1 1] n H fun v n' H'=>∃z,n≤z∧v=.slice (some ⟨z,0,none⟩) (L.length+1) (L.length+1)∧H' z=.cells ((L.take i++[x]++L.drop i).flatMap ccell) 82 true:=by
 by_cases hlt:i<L.length
 ·have hne:L≠[]:=by intro e;rw[e]at hlt;simp at hlt
  obtain⟨cs,h1,h2,h3⟩:=hy hne
  have hyn:=live_lt hw (live_of h1)
  rw[sl_pos (by omega)]
  refine⟨_,_,_,ins_bs h1 hx (ccell_len x) h2 hlt (hxy hne) (by unfold bigN;omega) hyn,⟨Nat.le_succ n,fun z hz hX=>?_,fun hw z hz=>?_⟩,n,Nat.le_refl _,rfl,?_⟩
  ·rw[hset_ne _ _ _ (by omega),hset_ne _ _ _ (fun e=>hX ⟨hne,e⟩)]
  ·rw[hset_ne _ _ _ (by omega),hset_ne _ _ _ (by omega)]
   exact hw z (by omega)
  ·rw[hset_at,flat_ins hi h3]
 ·obtain rfl:i=L.length:=by omega
  have htk:L.take L.length++[x]++L.drop L.length=L++[x]:=by rw[List.take_of_length_le (Nat.le_refl _),List.drop_of_length_le (Nat.le_refl _),List.append_nil]
  rw[htk]
  have h10:(((1:Nat):Int)=0)=False:=eq_false (by omega)
  have hv6:((ccell x).drop 0).take 4=ccell x:=rfl
  have hv7:(ccell x).take 4=ccell x:=rfl
  have hv5:(ccell x).length=4:=rfl
  refine GivesX.of orders ok65 (Nat.le_of_ble_eq_true rfl) ?_
  by_cases hne:L=[]
  ·subst hne
   have hs0:sl y ([]:List (Cfg × Option Addr)).length=.slice none 0 0:=rfl
   rw[hs0]
   repeat (first|refine qqm rfl ?_|((first|refine qqr ?_|refine qqt ?_);simp only[SS,qg0,qgb,qgx,qgz,tor,vun,tlen2,tlen3,simprocAttr,hx,hv5,hv6,hv7,h10,List.length_nil,decide_true,decide_false,ff_65]))
   first|refine qqf ?_ ?_|refine qqg ?_ ?_
   ·exact(Kp.new n H _).kx.keep
   ·simp only[packed,qv,Nat.reduceEqDiff,↓reduceIte,ff_65]
    exact⟨n,Nat.le_refl _,rfl,hset_at _ _ _⟩
  ·obtain⟨cs,h1,h2,h3⟩:=hy hne
   have hyn:=live_lt hw (live_of h1)
   have hl0:L.length≠0:=fun e=>hne (List.eq_nil_of_length_eq_zero e)
   have hl0':((L.length:Int)=0)=False:=eq_false (by omega)
   have hct:[xo].contains y=false:=by have:=hxy hne;simp;omega
   have bL:L.length+1≤bigN:=by unfold bigN;omega
   have hll:(((L.length:Nat):Int)=(L.length:Int))=True:=eq_self _
   rw[sl_pos hl0]
   repeat (first|refine qqm rfl ?_|((first|refine qqr ?_|refine qqt ?_);simp only[SS,qg0,qgb,qgx,qgz,tor,vun,tlen2,tlen3,simprocAttr,hx,h1,h2,h3,hv5,hv6,hv7,h10,hct,bL,hll,List.drop_zero,Nat.le_refl,decide_true,decide_false,ff_65]))
   trace_state
   first|refine qqf ?_ ?_|refine qqg ?_ ?_
   ·exact(((Kp.refl n H).kx (X:=fun z=>L≠[]∧z=y)).set (x:=y) .dead (.inl ⟨hne,rfl⟩) hyn |>.trans (Kp.new n _ _).kx).keep
   ·simp only[packed,qv,Nat.reduceEqDiff,↓reduceIte,ff_65]
    exact⟨n,Nat.le_refl _,rfl,by rw[hset_at,List.flatMap_append,List.flatMap_singleton]⟩
end Go.Proofs.YtjlgpanihjnaeaaGreatDoor

namespace Go.Proofs.YtjlgpanihjnaeaaGreatDoor
open Go.AM
set_option maxRecDepth 100000
def SpK(H H':Heap):Prop:=∀z cs own,H z=.cells cs 75 own→H' z=.cells cs 75 own
theorem SpK.trans{H H1 H2:Heap}(a:SpK H H1)(b:SpK H1 H2):SpK H H2:=fun z cs own h=>b z cs own (a z cs own h)
theorem Kp.spk{n n':Nat}{H H':Heap}(hw:WF n H)(k:Kp n H n' H'):SpK H H':=fun z _ _ h=>(k.keep z (live_lt hw (live_of h))).trans h
def XC(H:Heap)(x:Cfg × Option Addr):Prop:=StOK H x∧∀z k,x.2=some ⟨z,k,none⟩→∃cs own,H z=.cells cs 75 own
theorem XC.keep{H H':Heap}{x:Cfg × Option Addr}(h:XC H x)(k:SpK H H'):XC H' x:=by
 refine⟨?_,fun z kz e=>?_⟩
 ·rcases h.1 with h1|⟨z,kz,cs,ty,own,e1,e2,e3,e4⟩
  ·exact .inl h1
  ·obtain⟨cs',own',e5⟩:=h.2 z kz e1
   rw[e2]at e5
   cases e5
   exact .inr ⟨z,kz,cs,_,own,e1,k z _ _ e2,e3,e4⟩
 ·obtain⟨cs,own,e5⟩:=h.2 z kz e
  exact⟨cs,own,k z _ _ e5⟩
def TV(H:Heap)(N:Nat)(v:Value)(T:List (Cfg × Option Addr)):Prop:=(v=.slice none 0 0∧T=[])∨∃yt cs,v=.slice (some ⟨yt,0,none⟩) T.length T.length∧N≤yt∧H yt=.cells cs 82 true∧T.length*4≤cs.length∧cs.take (T.length*4)=T.flatMap ccell
structure CO(H:Heap)(N co nn ys:Nat)(S T:List (Cfg × Option Addr))(vt:Value)(deep most:Nat):Prop where
 obj:H co=.cells [.pointer (some ⟨nn,0,none⟩),sl ys S.length,vt,.int .i64 (deep:Nat),.int .i64 (most:Nat)] 99 true
 co:N≤co
 seen:OC H ys S
 sy:S≠[]→N≤ys
 todo:TV H N vt T
 ne:S≠[]→∀yt k m c,vt=.slice (some ⟨yt,k,none⟩) m c→ys≠yt
 st:∀x∈S++T,XC H x
 srt:Srt S
 len:S.length≤most
 tl:T.length≤S.length
 dp:∀x∈S,x.1.stack.length≤deep
theorem CO.kp{H H':Heap}{n n' N co nn ys deep most:Nat}{S T:List (Cfg × Option Addr)}{vt:Value}(h:CO H N co nn ys S T vt deep most)(hw:WF n H)(k:Kp n H n' H'):CO H' N co nn ys S T vt deep most where
 obj:=(k.keep co (live_lt hw (live_of h.obj))).trans h.obj
 co:=h.co
 seen:=h.seen.keep fun _ hd=>k.keep ys (live_lt hw hd)
 sy:=h.sy
 todo:=by
  rcases h.todo with e|⟨yt,cs,e1,e2,e3,e4⟩
  ·exact .inl e
  ·exact .inr ⟨yt,cs,e1,e2,(k.keep yt (live_lt hw (live_of e3))).trans e3,e4⟩
 ne:=h.ne
 st:=fun x hx=>(h.st x hx).keep (Kp.spk hw k)
 srt:=h.srt
 len:=h.len
 tl:=h.tl
 dp:=h.dp
inductive Come(deep most:Nat)(S T:List (Cfg × Option Addr))(x:Cfg × Option Addr):List (Cfg × Option Addr)→List (Cfg × Option Addr)→Prop where
 | old (h:x.1∈S.map (·.1)):Come deep most S T x S T
 | new (h:x.1∉S.map (·.1)) (hd:x.1.stack.length≤deep) (hm:S.length<most) (i:Nat) (hi:i≤S.length):Come deep most S T x (S.take i++[x]++S.drop i) (T++[x])
def Away(q ys:Nat)(S:List (Cfg × Option Addr))(vt:Value):Prop:=(S≠[]→q≠ys)∧∀k m c,vt≠.slice (some ⟨q,k,none⟩) m c
theorem srt_ins{S:List (Cfg × Option Addr)}{x:Cfg × Option Addr}{i:Nat}(hs:Srt S)(hi:i≤S.length)(hx:x.1∉S.map (·.1))(hlo:∀k (h:k<S.length),k<i→cmpC S[k].1 x.1<0)(hhi:∀k (h:k<S.length),i≤k→0≤cmpC S[k].1 x.1):Srt (S.take i++[x]++S.drop i):=by
 have hs0:=hs
 unfold Srt at hs ⊢
 rw[List.append_assoc,List.pairwise_append]
 refine⟨hs.sublist (List.take_sublist _ _),?_,fun a ha b hb=>?_⟩
 ·rw[List.singleton_append,List.pairwise_cons]
  refine⟨fun b hb=>?_,hs.sublist (List.drop_sublist _ _)⟩
  obtain⟨k,hk,rfl⟩:=List.getElem_of_mem hb
  rw[List.getElem_drop]
  rw[List.length_drop]at hk
  have h1:=hhi (i+k) (by omega) (by omega)
  have h2:=cmpC_neg S[i+k].1 x.1
  have h3:cmpC S[i+k].1 x.1≠0:=fun e=>hx (List.mem_map.2 ⟨_,List.getElem_mem _,cmpC_zero.1 e⟩)
  omega
 ·obtain⟨k,hk,rfl⟩:=List.getElem_of_mem ha
  rw[List.getElem_take]
  rw[List.length_take]at hk
  have h1:=hlo k (by omega) (by omega)
  rcases List.mem_append.1 hb with hb|hb
  ·rw[List.mem_singleton]at hb
   subst hb;exact h1
  ·obtain⟨m,hm,rfl⟩:=List.getElem_of_mem hb
   rw[List.getElem_drop]
   rw[List.length_drop]at hm
   exact hs0.lt (by omega) (by omega)
set_option maxHeartbeats 16000000 in
theorem come_gives {N co nn ys deep most n : Nat} {H : Heap} {S T : List (Cfg × Option Addr)} {vt : Value} {x : Cfg × Option Addr} (hw : WF n H) (hc : CO H N co nn ys S T vt deep most) (hx : XC H x) (hN : N ≤ n) (hm : most ≤ 65536) (hdm : deep ≤ 65536) (hxs : x.1.stack.length ≤ 131072) :
    GivesX Tryz.prog (fun z => N ≤ z) 46 [.pointer (some ⟨co, 0, none⟩), .agg (ccell x).toArray] n H fun v n' H' => SpK H H' ∧ (∀ q, q < n → q ≠ co → Away q ys S vt → H' q = H q) ∧
      ((v = .bool false ∧ (deep < x.1.stack.length ∨ x.1 ∉ S.map (·.1) ∧ most ≤ S.length)) ∨ (v = .bool true ∧ ∃ ys' S' T' vt', CO H' N co nn ys' S' T' vt' deep most ∧ (∀ q, q < n → Away q ys S vt → Away q ys' S' vt') ∧ Come deep most S T x S' T')) := by
  refine GivesX.of orders ok46 (Nat.le_of_ble_eq_true rfl) ?_
  have v1 : ∀ s, vcells (.agg (ccell s).toArray) = ccell s := fun _ => rfl
  have v2 : ∀ s, (ccell s).all one = true := fun _ => rfl
  have v4 : ∀ s, (ccell s)[3]? = some (.slice s.2 s.1.stack.length s.1.stack.length) := fun _ => rfl
  have v5 : ∀ s, (ccell s).length = 4 := fun _ => rfl
  have v6 : ∀ s, ((ccell s).drop 0).take 4 = ccell s := fun _ => rfl
  have v7 : ∀ a b c d s, AM.splice [a, b, c, d] 0 (ccell s) = ccell s := fun _ _ _ _ _ => rfl
  have k1 := Kp.new n H (.cells (ccell x) 82 true)
  have hb := hset_at H n (.cells (ccell x) 82 true)
  have hcol := live_lt hw (live_of hc.obj)
  have ho1 := (k1.keep co hcol).trans hc.obj
  have hsl : sl ys S.length = .slice (slp ys S.length) S.length S.length := sl_eq _ _
  have hlen := hc.len
  repeat refine qqn rfl ?_
  (refine qqr ?_; simp only [SS, qx24, simprocAttr, abox, v1, v2, ff_46])
  generalize hset H n (.cells (ccell x) 82 true) = H1 at *
  have hw1 := k1.wf hw
  have sp1 := Kp.spk hw k1
  by_cases hd : (deep : Int) < (x.1.stack.length : Int)
  · repeat (first | refine qqm rfl ?_ | ((first | refine qqr ?_ | refine qqt ?_); simp only [SS, qx24, simprocAttr, hb, ho1, v4, v5, hd, aop_nc, tnc, ff_46]))
    first | refine qqf ?_ ?_ | refine qqg ?_ ?_
    · exact k1.kx.keep
    · simp only [packed, qv, Nat.reduceEqDiff, ↓reduceIte, ff_46]
      exact ⟨sp1, fun q hq _ _ => k1.keep q hq, .inl ⟨trivial, .inl (by omega)⟩⟩
  have hcl1 : CL H1 (slp ys S.length) S := ⟨(hc.seen.keep (H' := H1) fun _ h => k1.keep ys (live_lt hw h)).rn, fun y hy => ((hc.st y (List.mem_append_left _ hy)).keep sp1).1⟩
  have hbin := bin_gives hw1 hcl1 (hx.keep sp1).1 hc.srt (by omega) (fun y hy => by have := hc.dp y hy; omega)
  repeat (first | refine qqm rfl ?_ | ((first | refine qqr ?_ | refine qqt ?_); simp only [SS, qx24, simprocAttr, hb, ho1, v4, v5, v6, hd, hsl, aop_nc, tnc, ff_46]))
  refine AtCall.by hbin ?_
  rintro v n2 H2 k2 ⟨i, b, rfl, hi, hlo, hhi, hbi⟩
  have hw2 := k2.wf hw1
  have hle2 := k2.le
  have k12 := k1.trans k2
  have sp2 := Kp.spk hw k12
  have hb2 := (k2.keep n (by omega)).trans hb
  have ho2 := (k2.keep co (by omega)).trans ho1
  cases b with
  | true =>
    simp only [SS, qx24, simprocAttr, List.toList_toArray, ff_46]
    repeat (first | refine qqm rfl ?_ | ((first | refine qqr ?_ | refine qqt ?_); simp only [SS, qx24, simprocAttr, ff_46]))
    first | refine qqf ?_ ?_ | refine qqg ?_ ?_
    · exact k12.kx.keep
    · simp only [packed, qv, Nat.reduceEqDiff, ↓reduceIte, ff_46]
      exact ⟨sp2, fun q hq _ _ => k12.keep q hq, .inr ⟨trivial, ys, S, T, vt, hc.kp hw k12, fun _ _ h => h, .old (hbi.1 rfl)⟩⟩
  | false =>
    have hnx : x.1 ∉ S.map (·.1) := fun h => by have := hbi.2 h; cases this
    simp only [SS, qx24, simprocAttr, List.toList_toArray, ff_46]
    by_cases hfull : (most : Int) ≤ (S.length : Int)
    · repeat (first | refine qqm rfl ?_ | ((first | refine qqr ?_ | refine qqt ?_); simp only [SS, qx24, simprocAttr, ho2, hsl, hfull, aop_nc, tnc, ff_46]))
      first | refine qqf ?_ ?_ | refine qqg ?_ ?_
      · exact k12.kx.keep
      · simp only [packed, qv, Nat.reduceEqDiff, ↓reduceIte, ff_46]
        exact ⟨sp2, fun q hq _ _ => k12.keep q hq, .inl ⟨trivial, .inr ⟨hnx, by omega⟩⟩⟩
    · have hsm : S.length < most := by omega
      have hdx : x.1.stack.length ≤ deep := by omega
      have hins := insert_gives (y := ys) (xo := n2) (i := i) (n := n2 + 1) (H := hset H2 n2 (.cells (ccell x) 82 true)) (L := S) (x := x) ((Kp.new n2 H2 _).wf hw2)
        ((hc.seen.keep (H' := H2) fun _ h => k12.keep ys (live_lt hw h)).keep fun hne h => hset_ne _ _ _ (by have := live_lt hw2 h; omega)) (hset_at _ _ _) (fun hne => by
          obtain ⟨cs, h1, _⟩ := hc.seen hne
          have := live_lt hw (live_of h1); omega) hi (by omega)
      rw [sl_eq] at hins
      have hfull' : (most ≤ S.length) = False := eq_false (by omega)
      repeat refine qqn rfl ?_
      (refine qqr ?_; simp only [SS, qx24, simprocAttr, ff_46])
      repeat refine qqn rfl ?_
      refine qqm rfl ?_
      repeat refine qqn rfl ?_
      (refine qqr ?_; simp only [SS, qx24, simprocAttr, ho2, hsl, hfull', aop_nc, tnc, ff_46])
      repeat refine qqn rfl ?_
      refine qqm rfl ?_
      repeat refine qqn rfl ?_
      (refine WK.rgs [true, true, true, true, true, true, true, true, false] (by kernel_rfl) (by kernel_rfl) ?_; simp only [wz, SS, forall_const, wx, tguard, acallee, top, tval, fput, tor, vsh, vbin, tload, tload2, tload3, tstore, tstore2, tstore3, Go.AM.splice, one, tfa, tfa2, tlen2, tlen3, textr, tbox, tbs, tbs2, afill, tap, tap2, tap3, tap4, tsrc, tsrc2, simprocAttr, ho2, hsl, hb2, v1, v2, v5, v6, v7, aop_nc, tnc, ff_46])
      refine AtCall.byX hins ?_
      rintro v n4 H4 k4 ⟨z, hz, rfl, hzc⟩
      have hle4 := k4.le
      have hcoy : S ≠ [] → co ≠ ys := fun hne e => by
        obtain ⟨cs, h1, _⟩ := hc.seen hne
        have h2 := hc.obj
        rw [e, h1] at h2
        exact absurd (AObj.cells.inj h2).2.1 (by decide)
      have hysn : S ≠ [] → ys < n := fun hne => by
        obtain ⟨cs, h1, _⟩ := hc.seen hne
        exact live_lt hw (live_of h1)
      have k3 := Kp.new n2 H2 (.cells (ccell x) 82 true)
      have hw4 := k4.wf (k3.wf hw2)
      have keep4 : ∀ q, q < n2 + 1 → (S ≠ [] → q ≠ ys) → q ≠ n2 → H4 q = H2 q := fun q h1 h2 h3 => (k4.keep q h1 fun h => h2 h.1 h.2).trans (hset_ne _ _ _ h3)
      have o4 := (keep4 co (by omega) hcoy (by omega)).trans ho2
      have b4 := (keep4 n (by omega) (fun h => by have := hysn h; omega) (by omega)).trans hb2
      have hzn4 : z < n4 := live_lt hw4 (live_of hzc)
      have hSl : (S.take i ++ [x] ++ S.drop i).length = S.length + 1 := by simp; omega
      have old : ∀ q, q < n → (S ≠ [] → q ≠ ys) → H4 q = H q := fun q h1 h2 => (keep4 q (by omega) h2 (by omega)).trans (k12.keep q h1)
      have fin : ∀ (H6 : Heap) (w' : Nat), H6 co = .cells [.pointer (some ⟨nn, 0, none⟩), .slice (some ⟨z, 0, none⟩) (S.length + 1) (S.length + 1), .slice (some ⟨w', 0, none⟩) (T.length + 1) (T.length + 1), .int .i64 (deep : Nat), .int .i64 (most : Nat)] 99 true →
          H6 z = .cells ((S.take i ++ [x] ++ S.drop i).flatMap ccell) 82 true → H6 w' = .cells ((T ++ [x]).flatMap ccell) 82 true → z ≠ w' → n ≤ w' →
          (∀ q, q < n → q ≠ co → (S ≠ [] → q ≠ ys) → (∀ yt k m c, vt = .slice (some ⟨yt, k, none⟩) m c → q ≠ yt) → H6 q = H q) →
          (∀ q, q < n → ¬ N ≤ q → H6 q = H q) ∧ SpK H H6 ∧ (∀ q, q < n → q ≠ co → Away q ys S vt → H6 q = H q) ∧ ∃ ys' S' T' vt', CO H6 N co nn ys' S' T' vt' deep most ∧ (∀ q, q < n → Away q ys S vt → Away q ys' S' vt') ∧ Come deep most S T x S' T' := by
        intro H6 w' h1 h2 h3 h4 h5 h6
        have hyt : ∀ yt k m c, vt = .slice (some ⟨yt, k, none⟩) m c → N ≤ yt ∧ ∃ cs, H yt = .cells cs 82 true := fun yt k m c e => by
          rcases hc.todo with ⟨e1, _⟩ | ⟨yt', cs, e1, e2, e3, _⟩
          · rw [e1] at e; cases e
          · rw [e1] at e; cases e; exact ⟨e2, cs, e3⟩
        have hsp : SpK H H6 := fun q cs own hq => by
          refine (h6 q (live_lt hw (live_of hq)) (fun e => ?_) (fun hne e => ?_) (fun yt k m c e e' => ?_)).trans hq
          · rw [e, hc.obj] at hq; exact absurd (AObj.cells.inj hq).2.1 (by decide)
          · obtain ⟨cs', h', _⟩ := hc.seen hne
            rw [e, h'] at hq; exact absurd (AObj.cells.inj hq).2.1 (by decide)
          · obtain ⟨_, cs', h'⟩ := hyt yt k m c e
            rw [e', h'] at hq; exact absurd (AObj.cells.inj hq).2.1 (by decide)
        refine ⟨fun q hq hN => h6 q hq (fun e => hN (e ▸ hc.co)) (fun hne e => hN (e ▸ hc.sy hne)) (fun yt k m c e e' => hN (e' ▸ (hyt yt k m c e).1)), hsp, fun q h1 h2 h3 => h6 q h1 h2 h3.1 (fun yt k m c e e' => h3.2 k m c (e'.symm ▸ e)), z, S.take i ++ [x] ++ S.drop i, T ++ [x], .slice (some ⟨w', 0, none⟩) (T.length + 1) (T.length + 1), ⟨?_, hc.co, OC.of h2, fun _ => by omega, .inr ⟨w', _, ?_, by omega, h3, ?_, ?_⟩, fun _ yt k m c e => by cases e; exact h4, fun y hy => ?_, srt_ins hc.srt hi hnx hlo hhi, ?_, ?_, fun y hy => ?_⟩, fun q h1 _ => ⟨fun _ => by omega, fun k m c e => by cases e; omega⟩, .new hnx hdx hsm i hi⟩
        · rw [hSl]; exact h1
        · rw [List.length_append]; rfl
        · rw [fm_len ccell_len]; exact Nat.le_refl _
        · exact List.take_of_length_le (by rw [fm_len ccell_len]; exact Nat.le_refl _)
        · have : y ∈ S ++ T ∨ y = x := by
            simp only [List.mem_append, List.mem_singleton] at hy ⊢
            rcases hy with ((h | h) | h) | h | h
            · exact .inl (.inl (List.mem_of_mem_take h))
            · exact .inr h
            · exact .inl (.inl (List.mem_of_mem_drop h))
            · exact .inl (.inr h)
            · exact .inr h
          rcases this with h | h
          · exact (hc.st y h).keep hsp
          · rw [h]; exact hx.keep hsp
        · rw [hSl]; omega
        · rw [hSl, List.length_append]; have := hc.tl; simp; omega
        · simp only [List.mem_append, List.mem_singleton] at hy
          rcases hy with (h | h) | h
          · exact hc.dp y (List.mem_of_mem_take h)
          · rw [h]; exact hdx
          · exact hc.dp y (List.mem_of_mem_drop h)
      have q : ∀ {a b : Nat}, b ≠ a → ∀ (H : Heap) ob, hset H a ob b = H b := fun h H ob => hset_ne _ _ _ h
      have htl := hc.tl
      rcases hc.todo with ⟨rfl, rfl⟩ | ⟨yt, cs, rfl, hNy, hyt, hcl, htk⟩
      · simp only [SS, qx24, simprocAttr, o4, aop_nc, tnc, ff_46]
        repeat (first | refine qqm rfl ?_ | ((first | refine qqr ?_ | refine qqt ?_); simp only [SS, qx24, simprocAttr, b4, hset_at, q (show n ≠ co by omega), q (show co ≠ n4 by omega), q (show co ≠ n4 + 1 by omega), v1, v2, v5, v6, v7, aop_nc, tnc, ff_46]))
        have hf := fin (hset (hset (hset (hset H4 co (.cells [.pointer (some ⟨nn, 0, none⟩), .slice (some ⟨z, 0, none⟩) (S.length + 1) (S.length + 1), .slice none 0 0, .int .i64 (deep : Nat), .int .i64 (most : Nat)] 99 true)) n4 (.cells (ccell x) 82 true)) (n4 + 1) (.cells (ccell x) 82 true)) co
          (.cells [.pointer (some ⟨nn, 0, none⟩), .slice (some ⟨z, 0, none⟩) (S.length + 1) (S.length + 1), .slice (some ⟨n4 + 1, 0, none⟩) 1 1, .int .i64 (deep : Nat), .int .i64 (most : Nat)] 99 true)) (n4 + 1) (hset_at _ _ _)
          ((hset_ne _ _ _ (by omega)).trans ((hset_ne _ _ _ (by omega)).trans ((hset_ne _ _ _ (by omega)).trans ((hset_ne _ _ _ (by omega)).trans hzc))))
          ((hset_ne _ _ _ (by omega)).trans ((hset_at _ _ _).trans (by simp))) (by omega) (by omega)
          (fun q h1 h2 h3 _ => (hset_ne _ _ _ h2).trans ((hset_ne _ _ _ (by omega)).trans ((hset_ne _ _ _ (by omega)).trans ((hset_ne _ _ _ h2).trans (old q h1 h3)))))
        first | refine qqf ?_ ?_ | refine qqg ?_ ?_
        · exact hf.1
        · simp only [packed, qv, Nat.reduceEqDiff, ↓reduceIte, ff_46]
          exact ⟨hf.2.1, hf.2.2.1, .inr ⟨trivial, hf.2.2.2⟩⟩
      · have hytn := live_lt hw (live_of hyt)
        have hyy : S ≠ [] → yt ≠ ys := fun hne e => hc.ne hne yt 0 _ _ rfl e.symm
        have hyc : yt ≠ co := fun e => by
          have h2 := hc.obj
          rw [← e, hyt] at h2
          exact absurd (AObj.cells.inj h2).2.1 (by decide)
        have hyt4 := (old yt hytn hyy).trans hyt
        have hct : [n4].contains yt = false := by simp; omega
        have bT : T.length + 1 ≤ bigN := by unfold bigN; omega
        have v8 : ∀ s, (ccell s).take 4 = ccell s := fun _ => rfl
        simp only [SS, qx24, simprocAttr, o4, aop_nc, tnc, ff_46]
        repeat (first | refine qqm rfl ?_ | ((first | refine qqr ?_ | refine qqt ?_); simp only [SS, qx24, simprocAttr, b4, hyt4, hset_at, hcl, htk, hct, bT, List.drop_zero, Nat.le_refl, q (show n ≠ co by omega), q hyc, q (show yt ≠ n4 by omega), q (show co ≠ n4 by omega), q (show co ≠ n4 + 1 by omega), q (Ne.symm hyc), v1, v2, v5, v6, v7, v8, aop_nc, tnc, ff_46]))
        have hf := fin (hset (hset (hset (hset (hset H4 co (.cells [.pointer (some ⟨nn, 0, none⟩), .slice (some ⟨z, 0, none⟩) (S.length + 1) (S.length + 1), .slice (some ⟨yt, 0, none⟩) T.length T.length, .int .i64 (deep : Nat), .int .i64 (most : Nat)] 99 true)) n4 (.cells (ccell x) 82 true)) yt .dead) (n4 + 1) (.cells (T.flatMap ccell ++ ccell x) 82 true)) co
          (.cells [.pointer (some ⟨nn, 0, none⟩), .slice (some ⟨z, 0, none⟩) (S.length + 1) (S.length + 1), .slice (some ⟨n4 + 1, 0, none⟩) (T.length + 1) (T.length + 1), .int .i64 (deep : Nat), .int .i64 (most : Nat)] 99 true)) (n4 + 1) (hset_at _ _ _)
          ((hset_ne _ _ _ (by omega)).trans ((hset_ne _ _ _ (by omega)).trans ((hset_ne _ _ _ (by omega)).trans ((hset_ne _ _ _ (by omega)).trans ((hset_ne _ _ _ (by omega)).trans hzc)))))
          ((hset_ne _ _ _ (by omega)).trans ((hset_at _ _ _).trans (by rw [List.flatMap_append, List.flatMap_singleton]))) (by omega) (by omega)
          (fun q h1 h2 h3 h4 => (hset_ne _ _ _ h2).trans ((hset_ne _ _ _ (by omega)).trans ((hset_ne _ _ _ (h4 yt 0 _ _ rfl)).trans ((hset_ne _ _ _ (by omega)).trans ((hset_ne _ _ _ h2).trans (old q h1 h3))))))
        first | refine qqf ?_ ?_ | refine qqg ?_ ?_
        · exact hf.1
        · simp only [packed, qv, Nat.reduceEqDiff, ↓reduceIte, ff_46]
          exact ⟨hf.2.1, hf.2.2.1, .inr ⟨trivial, hf.2.2.2⟩⟩
end Go.Proofs.YtjlgpanihjnaeaaGreatDoor
