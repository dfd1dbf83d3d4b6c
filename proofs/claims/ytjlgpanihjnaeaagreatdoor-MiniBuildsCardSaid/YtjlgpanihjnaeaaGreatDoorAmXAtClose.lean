/- A part of a proof. Its conditions: none. -/
import Derived.Test.YtjlgpanihjnaeaaGreatDoorAmXAtClo
import Derived.Test.YtjlgpanihjnaeaaGreatDoorAmXAtCome
set_option linter.all false
namespace Go.Proofs.YtjlgpanihjnaeaaGreatDoor
open Go.AM
set_option maxRecDepth 100000
theorem splice_take{cs vs:List Value}{k m:Nat}(h:k+vs.length≤cs.length)(hm:m≤k):(AM.splice cs k vs).take m=cs.take m:=by
 apply List.ext_getElem?
 intro i
 rw[List.getElem?_take,List.getElem?_take]
 by_cases hi:i<m
 ·rw[if_pos hi,if_pos hi,splice_get vs cs k h,if_neg (by omega)]
 ·rw[if_neg hi,if_neg hi]
theorem splice_put{cs vs:List Value}{k:Nat}(h:k+vs.length≤cs.length):(AM.splice cs k vs).take (k+vs.length)=cs.take k++vs:=by
 apply List.ext_getElem?
 intro i
 rw[List.getElem?_take]
 by_cases hi:i<k+vs.length
 ·rw[if_pos hi,splice_get vs cs k h]
  by_cases h1:k≤i
  ·rw[if_pos ⟨h1,hi⟩,List.getElem?_append_right (by simp;omega)]
   congr 1
   simp;omega
  ·rw[if_neg (by omega),List.getElem?_append_left (by simp;omega),List.getElem?_take,if_pos (by omega)]
 ·rw[if_neg hi,List.getElem?_eq_none (by simp;omega)]
theorem splice_drop{cs vs:List Value}{k m:Nat}(h:k+vs.length≤cs.length)(hm:k+vs.length≤m):(AM.splice cs k vs).drop m=cs.drop m:=by
 apply List.ext_getElem?
 intro i
 rw[List.getElem?_drop,List.getElem?_drop,splice_get vs cs k h,if_neg (by omega)]
theorem z_cells:∃i zs,Tryz.prog.info? 82=some i∧i.size=4∧zeroCellsOf Tryz.prog 82=some zs∧zs.length=4:=by
 obtain⟨i,hi,h1,h2⟩:=i_cfg
 have h3:(zeroCellsOf Tryz.prog 82).map (·.length)=some 4:=by kernel_rfl
 obtain⟨zs,h4,h5⟩:=Option.map_eq_some_iff.1 h3
 exact⟨i,zs,hi,h1,h4,h5⟩
theorem clear_cfg{H:Heap}{y k m c:Nat}{cs:List Value}(hy:H y=.cells cs 82 true)(hk:k+(m+1)*4≤cs.length) :
  ∃zs,(rep (m+1) zs).length=(m+1)*4∧aclear Tryz.prog H #[53] (.slice (some ⟨y,k,none⟩) (m+1) c)=some { v:=.tuple #[],wr:=some (y,.cells (AM.splice cs k (rep (m+1) zs)) 82 true) }:=by
 obtain⟨i,zs,hi,h1,h2,h3⟩:=z_cells
 have hl:(rep (m+1) zs).length=(m+1)*4:=by rw[rep_length,h3]
 refine⟨zs,hl,?_⟩
 unfold aclear
 have h0:(#[53]:Array TypeId)[0]? = some 53:=rfl
 simp only[h0,u_cfgs,hy,hi,h2]
 rw[if_pos ⟨by omega,by omega⟩]
theorem aop_clear{P:Program}{f:Fr}{n:Nat}{H:Heap}{d:Option Nat}{x:Operand}{t ty:TypeId}{p:String}{af:Array Edge}{gd:Option (Nat × Bool)} :
  aop P (evalA f) n H ⟨d,.call { callee:=.builtin .clear,args:=#[x],argTypes:=#[t] },ty,p,af,gd⟩=aclear P H #[t] (evalA f x):=rfl
def TyC(H:Heap)(p:Option Addr):Prop:=∀x k,p=some ⟨x,k,none⟩→∃cs own,H x=.cells cs 82 own
set_option maxHeartbeats 16000000 in
theorem delete_gives{N nn bn n cc ys:Nat}{H0 H:Heap}{S:List CA}{pt pv pr:Option Addr}{g:Gram}{cl:List (Option Addr × List (Int × Int))}(hw0:WF N H0)(k0:Kp N H0 n H)(ne:NE H0 nn pt pv pr g cc cl)(hi:InG g)(hgl:g.terms.length≤64∧g.vars.length≤64)
  (hlen:∀r∈g.rules,r.right.length≤24) (hv:∀x∈S,VC g x.1) (hbn:H0 bn=.cells [.pointer (some ⟨nn,0,none⟩)] 45 true) (hS:OC H ys S) (hN:S≠[]→N≤ys) (hl:S.length≤65536) :
  GivesX Tryz.prog (fun z=>N≤z) 48 [sl ys S.length,.func (.func 49) #[] #[.pointer (some ⟨bn,0,none⟩)]] n H fun v _ H'=>SpK H H' ∧
   ∃p L,v=.slice p L.length L.length∧L=S.filter (fun x=>!idle g x.1)∧RN 4 ccell H' p L∧TyC H' p:=by
 have hw:=k0.wf hw0
 refine GivesX.of orders ok48 (Nat.le_of_ble_eq_true rfl) ?_
 have v1:∀s,vcells (.agg (ccell s).toArray)=ccell s:=fun _=>rfl
 have v2:∀s,(ccell s).all one=true:=fun _=>rfl
 have v5:∀s,(ccell s).length=4:=fun _=>rfl
 have v6:∀s,((ccell s).drop 0).take 4=ccell s:=fun _=>rfl
 have v7:∀a b c d s,AM.splice [a,b,c,d] 0 (ccell s)=ccell s:=fun _ _ _ _ _=>rfl
 have hif:=indexF_gives hw0 k0 ne hi hgl hlen hv hbn hS.rn hl
 rw[sl_eq]
 repeat (first|refine qqm rfl ?_|((first|refine qqr ?_|refine qqt ?_);simp only[SS,qx25,vun,simprocAttr,ff_48]))
 refine AtCall.by hif ?_
 rintro v n1 H1 k1 (⟨rfl,hno⟩|⟨i0,hi0,rfl,hyes,hno⟩)
 ·have hm1:(((-1:Int)) = -1)=True:=eq_self _
  simp only[SS,qx25,vun,simprocAttr,ff_48]
  repeat (first|refine qqm rfl ?_|((first|refine qqr ?_|refine qqt ?_);simp only[SS,qx25,vun,simprocAttr,hm1,decide_true,ff_48]))
  first|refine qqf ?_ ?_|refine qqg ?_ ?_
  ·exact k1.kx.keep
  ·simp only[packed,qv,Nat.reduceEqDiff,↓reduceIte,ff_48]
   have hS1:=hS.keep fun _ h=>k1.keep ys (live_lt hw h)
   refine⟨Kp.spk hw k1,slp ys S.length,S,rfl,?_,hS1.rn,fun x k e=>?_⟩
   rotate_left
   ·by_cases h0:S=[]
    ·rw[h0]at e;cases e
    ·rw[slp_pos (fun h=>h0 (List.eq_nil_of_length_eq_zero h))]at e
     cases e
     obtain⟨cs,hc,_⟩:=hS1 h0
     exact⟨_,_,hc⟩
   rw[List.filter_eq_self.2 fun x hx=>by rw[hno x hx];rfl]
 ·have hw1:=k1.wf hw
  have hne:S≠[]:=by intro e;rw[e]at hi0;simp at hi0
  obtain⟨cs0,hc0,hl0,ht0⟩:=hS hne
  have hysn:=live_lt hw (live_of hc0)
  have hc1:=(k1.keep ys hysn).trans hc0
  have hNy:=hN hne
  have hm1:(((i0:Nat):Int) = -1)=False:=eq_false (by omega)
  have hiw0:IntKind.i64.wrap ((i0:Int)+1)=((i0+1:Nat):Int):=by rw[wrap_in (by omega) (by omega)];rfl
  rw[slp_pos (by omega)]
  simp only[SS,qx25,vun,simprocAttr,ff_48]
  repeat (first|refine qqm rfl ?_|((first|refine qqr ?_|refine qqt ?_);simp only[SS,qx25,vun,simprocAttr,hm1,hiw0,decide_false,ff_48]))
  have hnn:∀l:List CA,(∀x∈l,idle g x.1=false)→l.filter (fun x=>!idle g x.1)=l:=fun l h=>List.filter_eq_self.2 fun x hx=>by rw[h x hx];rfl
  have htk0:S.take (i0+1)=S.take i0++[S[i0]]:=List.take_succ_eq_append_getElem hi0
  have hf0:(S.take (i0+1)).filter (fun x=>!idle g x.1)=S.take i0:=by
   rw[htk0,List.filter_append,hnn _ hno]
   simp[hyes]
  have hdr:∀j,j≤S.length→(S.flatMap ccell).drop (j*4)=(S.drop j).flatMap ccell:=fun j hj=>by
   conv=>lhs;rw[←List.take_append_drop j S,List.flatMap_append]
   have h3:((S.take j).flatMap ccell).length=j*4:=by rw[fm_len ccell_len,List.length_take];omega
   rw[List.drop_append,h3,List.drop_of_length_le (by omega),Nat.sub_self];rfl
  have htkf:∀j,j≤S.length→(S.flatMap ccell).take (j*4)=(S.take j).flatMap ccell:=fun j hj=>by
   conv=>lhs;rw[←List.take_append_drop j S,List.flatMap_append]
   rw[List.take_append_of_le_length (by rw[fm_len ccell_len,List.length_take];omega),List.take_of_length_le (by rw[fm_len ccell_len,List.length_take];omega)]
  have hspk:SpK H H1:=Kp.spk hw k1
  refine WK.loop (fun kk s=>∃(i j:Nat) (cs:List Value),Kx (fun z=>N≤z) n H s.n s.H∧SpK H s.H∧s.H ys=.cells cs 82 true∧ys<s.n∧S.length*4≤cs.length∧i<j∧j≤S.length∧i=((S.take j).filter fun x=>!idle g x.1).length ∧
   cs.take (i*4)=((S.take j).filter fun x=>!idle g x.1).flatMap ccell∧(cs.drop (j*4)).take ((S.length - j)*4)=(S.drop j).flatMap ccell∧s.f 0=.slice (some ⟨ys,0,none⟩) S.length S.length ∧
   s.f 1=.func (.func 49) #[] #[.pointer (some ⟨bn,0,none⟩)]∧s.f 5=.int .i64 (i:Nat)∧s.f 6=.int .i64 (j:Nat)∧kk=S.length - j) (S.length - (i0+1)) ?_ ?_
  ·refine⟨i0,i0+1,cs0,k1.kx,hspk,hc1,by have:=k1.le;show ys<n1;omega,hl0,by omega,hi0,?_,?_,?_,rfl,rfl,rfl,rfl,rfl⟩
   ·rw[hf0,List.length_take];omega
   ·rw[hf0,←htkf i0 (by omega),←ht0,List.take_take,Nat.min_eq_left (by omega)]
   ·rw[←hdr (i0+1) hi0,←ht0,List.drop_take]
    congr 1
    omega
  rintro kk ⟨f,n2,H2⟩ ⟨i,j,cs,k2,sp2,hcs,hyn,hlc,hij,hjl,hil,htk,hdk,f0,f1,f5,f6,rfl⟩ ih
  simp only at k2 sp2 hcs hyn f0 f1 f5 f6 ih
  have k02:Kp N H0 n2 H2:=((k0.kx (X:=fun z=>N≤z)).trans k2).kp fun q h1 h2=>by omega
  have hw2:=k02.wf hw0
  by_cases hlt:j<S.length
  ·have hjw:IntKind.i64.wrap ((j:Int)+1)=((j+1:Nat):Int):=by rw[wrap_in (by omega) (by omega)];rfl
   have hiw:IntKind.i64.wrap ((i:Int)+1)=((i+1:Nat):Int):=by rw[wrap_in (by omega) (by omega)];rfl
   have hSd:S.drop j=S[j]::S.drop (j+1):=List.drop_eq_getElem_cons hlt
   have htj:S.take (j+1)=S.take j++[S[j]]:=List.take_succ_eq_append_getElem hlt
   have hmem:=List.getElem_mem hlt
   have hvx:=hv _ hmem
   rw[hSd,List.flatMap_cons]at hdk
   generalize S[j]=x at *
   have hx4:(cs.drop (j*4)).take 4=ccell x:=by
    have h:=congrArg (List.take 4) hdk
    rw[List.take_take,Nat.min_eq_left (by omega),List.take_append_of_le_length (by rw[ccell_len];exact Nat.le_refl _)]at h
    exact h.trans (List.take_of_length_le (by rw[ccell_len];exact Nat.le_refl _))
   have hrest:(cs.drop ((j+1)*4)).take ((S.length - (j+1))*4)=(S.drop (j+1)).flatMap ccell:=by
    have h:=congrArg (List.drop 4) hdk
    have h9:(ccell x).drop 4=[]:=rfl
    rw[List.drop_take,List.drop_drop,List.drop_append,ccell_len,h9,Nat.sub_self,List.nil_append,List.drop_zero]at h
    rw[←h,show j*4+4=(j+1)*4 by omega,show(S.length - j)*4 - 4=(S.length - (j+1))*4 by omega]
   have hfit:j*4+4≤cs.length:=by omega
   have k3:=Kp.new n2 H2 (.cells (ccell x) 82 true)
   have h3:=hset_at H2 n2 (.cells (ccell x) 82 true)
   have hcs3:=(k3.keep ys hyn).trans hcs
   have hw3:=k3.wf hw2
   have k03:=k02.trans k3
   have sp3:=sp2.trans (Kp.spk hw2 k3)
   have hcg:=close1_gives (x:=x) hw0 k03 ne hi hgl hlen hvx hbn
   have hSj:(S.take (j+1)).filter (fun x=>!idle g x.1)=((S.take j).filter fun x=>!idle g x.1)++if idle g x.1 then [] else [x]:=by
    rw[htj,List.filter_append]
    cases hid:idle g x.1 <;> simp[hid]
   repeat refine qqn rfl ?_
   (refine qqr ?_;simp only[SS,qx25,vun,simprocAttr,f0,f6,hlt,ff_48])
   repeat refine qqn rfl ?_
   refine qqm rfl ?_
   repeat refine qqn rfl ?_
   (refine qqr ?_;simp only[SS,qx25,vun,simprocAttr,f0,f6,hlt,hcs,hx4,hfit,v1,v2,v5,v7,Nat.zero_add,ff_48])
   generalize hset H2 n2 (.cells (ccell x) 82 true)=H3 at *
   repeat (first|refine qqm rfl ?_|((first|refine qqr ?_|refine qqt ?_);simp only[SS,qx25,vun,simprocAttr,f1,h3,v5,v6,List.nil_append,List.cons_append,ff_48]))
   refine AtCall.by hcg ?_
   rintro v n4 H4 k4 rfl
   have hle4:=k4.le
   have hw4:=k4.wf hw3
   have hcs4:=(k4.keep ys (by omega)).trans hcs3
   have h4:=(k4.keep n2 (by omega)).trans h3
   have k24:=k3.trans k4
   have sp4:=sp3.trans (Kp.spk hw3 k4)
   cases hid:idle g x.1 with
   | true =>
    rw[hid,if_pos rfl,List.append_nil]at hSj
    simp only[SS,qx25,vun,simprocAttr,Bool.not_true,ff_48]
    repeat (first|refine qqm rfl ?_|((first|refine qqr ?_|refine qqt ?_);simp only[SS,qx25,vun,simprocAttr,f6,hjw,ff_48]))
    exact ih (S.length - (j+1)) (by omega) _ ⟨i,j+1,cs,k2.trans k24.kx,sp4,hcs4,by show ys<n4;omega,hlc,by omega,hlt,by rw[hSj];exact hil,by rw[hSj];exact htk,hrest,f0,f1,f5,rfl,rfl⟩
   | false =>
    rw[hid,if_neg Bool.false_ne_true]at hSj
    have hsp:i*4+(ccell x).length≤cs.length:=by rw[ccell_len];omega
    have hfi:i*4+4≤cs.length:=by omega
    have hin:i<S.length:=by omega
    have hH5:SpK H (hset H4 ys (.cells (AM.splice cs (i*4) (ccell x)) 82 true)):=by
     intro z c own hz
     have h:=sp4 z c own hz
     by_cases hzy:z=ys
     ·subst hzy
      rw[hcs4]at h;cases h
     ·rw[hset_ne _ _ _ hzy];exact h
    have k25:=(k2.trans k24.kx).set (x:=ys) (.cells (AM.splice cs (i*4) (ccell x)) 82 true) (.inl hNy) (by show ys<n4;omega)
    have h5:=hset_at H4 ys (.cells (AM.splice cs (i*4) (ccell x)) 82 true)
    simp only[SS,qx25,vun,simprocAttr,Bool.not_false,ff_48]
    repeat (first|refine qqm rfl ?_|((first|refine qqr ?_|refine qqt ?_);simp only[SS,qx25,vun,simprocAttr,f0,f5,f6,hjw,hiw,h4,hcs4,hin,hfi,v1,v2,v5,v6,Nat.zero_add,ff_48]))
    exact ih (S.length - (j+1)) (by omega) _ ⟨i+1,j+1,AM.splice cs (i*4) (ccell x),k25,hH5,h5,by show ys<n4;omega,by rw[splice_length];exact hlc,by omega,hlt,by rw[hSj,List.length_append,List.length_singleton];omega,by
     rw[hSj,List.flatMap_append,List.flatMap_singleton,←htk]
     have h:=splice_put hsp
     rw[ccell_len,show i*4+4=(i+1)*4 by omega]at h
     exact h,by
     rw[splice_drop hsp (by rw[ccell_len];omega)]
     exact hrest,f0,f1,rfl,rfl,rfl⟩
  ·obtain rfl:j=S.length:=by omega
   rw[List.take_of_length_le (Nat.le_refl _)]at hil htk
   have hiN:i≤S.length:=by omega
   obtain⟨zs,hzl,hcl⟩:=clear_cfg (y:=ys) (k:=i*4) (m:=S.length - i - 1) (c:=S.length - i) hcs (by omega)
   rw[show S.length - i - 1+1=S.length - i by omega]at hzl hcl
   have h6:=hset_at H2 ys (.cells (AM.splice cs (i*4) (rep (S.length - i) zs)) 82 true)
   have hH5:SpK H (hset H2 ys (.cells (AM.splice cs (i*4) (rep (S.length - i) zs)) 82 true)):=by
    intro z c own hz
    have h:=sp2 z c own hz
    by_cases hzy:z=ys
    ·subst hzy
     rw[hcs]at h;cases h
    ·rw[hset_ne _ _ _ hzy];exact h
   have k25:=k2.set (x:=ys) (.cells (AM.splice cs (i*4) (rep (S.length - i) zs)) 82 true) (.inl hNy) hyn
   repeat (first|refine qqm rfl ?_|((first|refine qqr ?_|refine qqt ?_);simp only[SS,qx25,vun,simprocAttr,f0,f1,f5,f6,aop_clear,hcl,hcs,Nat.lt_irrefl,hiN,ff_48]))
   first|refine qqf ?_ ?_|refine qqg ?_ ?_
   ·exact k25.keep
   ·simp only[packed,qv,Nat.reduceEqDiff,↓reduceIte,ff_48]
    refine⟨hH5,some ⟨ys,0,none⟩,S.filter (fun x=>!idle g x.1),by rw[←hil],rfl,.inr ⟨ys,0,_,_,true,rfl,h6,by rw[splice_length];omega,?_⟩,fun x k e=>by cases e;exact⟨_,_,h6⟩⟩
    rw[List.drop_zero,←hil,splice_take (by rw[hzl];omega) (Nat.le_refl _)]
    exact htk
end Go.Proofs.YtjlgpanihjnaeaaGreatDoor

namespace Go.Proofs.YtjlgpanihjnaeaaGreatDoor
open Go.AM
set_option maxRecDepth 100000
set_option maxHeartbeats 16000000 in
theorem close_givesT {nn n cc deep most : Nat} {H : Heap} {p : Option Addr} {L : List CA} {pt pv pr : Option Addr} {g : Gram} {cl : List (Option Addr × List (Int × Int))} (hw : WF n H) (ne : NE H nn pt pv pr g cc cl) (ok : RightOK g) (hgl : g.terms.length ≤ 64 ∧ g.vars.length ≤ 64)
    (hlen : ∀ r ∈ g.rules, r.right.length ≤ 24) (hL : RN 4 ccell H p L) (hx : ∀ x ∈ L, XC H x) (hv : ∀ x ∈ L, GC g x.1) (hm : most ≤ 65536) (hdm : deep ≤ 65536) (hl : L.length ≤ 65536) (hxs : ∀ x ∈ L, x.1.stack.length ≤ 65536) :
    Gives Tryz.prog 32 [.pointer (some ⟨nn, 0, none⟩), .slice p L.length L.length, .int .i64 (deep : Nat), .int .i64 (most : Nat)] n H fun v n' H' => ∃ b S, Clo g (cl.map (·.2)) deep most (L.map (·.1)) b S ∧
      ((b = false ∧ v = .tuple #[.slice none 0 0, .bool false]) ∨ (b = true ∧ Srt S ∧ S.length ≤ most ∧ (∀ x ∈ S, x.1.stack.length ≤ deep) ∧ (∀ x ∈ S, GC g x.1) ∧ ∃ p' R, R = S.filter (fun x => !idle g x.1) ∧ v = .tuple #[.slice p' R.length R.length, .bool true] ∧ RN 4 ccell H' p' R ∧ (∀ x ∈ R, XC H' x) ∧ TyC H' p')) := by
  have hi := ok.inG
  have hclV : ∀ x ∈ cl.map (·.2), ∀ s ∈ x, VS g s := fun x hx => by
    obtain ⟨y, hy, rfl⟩ := List.mem_map.1 hx
    exact ne.ok y hy
  refine Gives.of orders ok32 (Nat.le_of_ble_eq_true rfl) ?_
  have v1 : ∀ s, vcells (.agg (ccell s).toArray) = ccell s := fun _ => rfl
  have v2 : ∀ s, (ccell s).all one = true := fun _ => rfl
  have v5 : ∀ s, (ccell s).length = 4 := fun _ => rfl
  have v6 : ∀ s, ((ccell s).drop 0).take 4 = ccell s := fun _ => rfl
  have v7 : ∀ a b c d s, AM.splice [a, b, c, d] 0 (ccell s) = ccell s := fun _ _ _ _ _ => rfl
  have k1 := Kp.new n H (.cells [.pointer (some ⟨nn, 0, none⟩)] 45 true)
  have hb := hset_at H n (.cells [.pointer (some ⟨nn, 0, none⟩)] 45 true)
  repeat refine qqn rfl ?_
  (refine qqr ?_; simp only [SS, qx10, vun, simprocAttr, abox, ff_32])
  generalize hset H n (.cells [.pointer (some ⟨nn, 0, none⟩)] 45 true) = H1 at *
  have hw1 := k1.wf hw
  have ne1 := ne.mono hw k1
  have hL1 := hL.mono hw k1
  have hx1 : ∀ x ∈ L, XC H1 x := fun x h => (hx x h).keep (Kp.spk hw k1)
  clear hL hx ne
  repeat refine qqn rfl ?_
  (refine qqr ?_; simp only [SS, qx10, vun, simprocAttr, hb, abox, ff_32])
  have k2 := Kp.new (n + 1) H1 (.cells [.pointer (some ⟨nn, 0, none⟩), .slice none 0 0, .slice none 0 0, .int .i64 (deep : Nat), .int .i64 (most : Nat)] 99 true)
  have ho := hset_at H1 (n + 1) (.cells [.pointer (some ⟨nn, 0, none⟩), .slice none 0 0, .slice none 0 0, .int .i64 (deep : Nat), .int .i64 (most : Nat)] 99 true)
  generalize hset H1 (n + 1) (.cells [.pointer (some ⟨nn, 0, none⟩), .slice none 0 0, .slice none 0 0, .int .i64 (deep : Nat), .int .i64 (most : Nat)] 99 true) = H2 at *
  have hco : CO H2 (n + 1) (n + 1) nn 0 [] [] (.slice none 0 0) deep most := ⟨ho, Nat.le_refl _, OC.nil, fun h => absurd rfl h, .inl ⟨rfl, rfl⟩, fun h => absurd rfl h, fun x hx => by simp at hx, List.Pairwise.nil, Nat.zero_le _, Nat.le_refl _, fun x hx => by simp at hx⟩
  repeat (first | refine qqm rfl ?_ | ((first | refine qqr ?_ | refine qqt ?_); simp only [SS, qx10, vun, simprocAttr, ff_32]))
  refine WK.loop (fun kk s => ∃ (i : Nat) (S T : List CA) (ys : Nat) (vt : Value), Kx (fun z => n + 1 ≤ z) (n + 1) H1 s.n s.H ∧ CO s.H (n + 1) (n + 1) nn ys S T vt deep most ∧ Comes deep most [] [] ((L.take i).map (·.1)) true S T ∧
    s.f 4 = .pointer (some ⟨n, 0, none⟩) ∧ s.f 10 = .pointer (some ⟨n + 1, 0, none⟩) ∧ s.f 19 = .slice p L.length L.length ∧ s.f 20 = .int .i64 (L.length : Nat) ∧ s.f 21 = .int .i64 (i : Nat) ∧ i ≤ L.length ∧ kk = L.length - i) L.length ?_ ?_
  · exact ⟨0, [], [], 0, _, k2.kx, hco, .nil _ _, rfl, rfl, rfl, rfl, rfl, Nat.zero_le _, rfl⟩
  clear hco ho k2 H2
  rintro kk ⟨f, n2, H2⟩ ⟨i, S, T, ys, vt, k2, hc, hcs, f4, f10, f19, f20, f21, hiL, rfl⟩ ih
  simp only at k2 hc f4 f10 f19 f20 f21 ih
  have k02 : Kp (n + 1) H1 n2 H2 := k2.kp fun q h1 h2 => by omega
  have hw2 := k02.wf hw1
  have hle2 := k02.le
  by_cases hlt : i < L.length
  · have hiw : IntKind.i64.wrap ((i : Int) + 1) = ((i + 1 : Nat) : Int) := by rw [wrap_in (by omega) (by omega)]; rfl
    have hL2 := hL1.mono hw1 k02
    obtain ⟨z, kz, cs, tz, oz, hp, hz, ez, lz⟩ := hL2.at ccell_len hlt
    rw [hp] at f19
    have hmem := List.getElem_mem hlt
    have htk : L.take (i + 1) = L.take i ++ [L[i]] := List.take_succ_eq_append_getElem hlt
    have hxx := (hx1 _ hmem).keep (Kp.spk hw1 k02)
    have hxl := hxs _ hmem
    generalize L[i] = x at *
    have k3 := Kp.new n2 H2 (.cells (ccell x) 82 true)
    have h3 := hset_at H2 n2 (.cells (ccell x) 82 true)
    repeat refine qqn rfl ?_
    (refine qqr ?_; simp only [SS, qx10, vun, simprocAttr, f20, f21, hlt, ff_32])
    repeat refine qqn rfl ?_
    refine qqm rfl ?_
    repeat refine qqn rfl ?_
    (refine qqr ?_; simp only [SS, qx10, vun, simprocAttr, f19, f21, hlt, hz, ez, lz, v1, v2, v5, v7, ff_32])
    generalize hset H2 n2 (.cells (ccell x) 82 true) = H3 at *
    have hw3 := k3.wf hw2
    have hcm := come_gives (x := x) hw3 (hc.kp hw2 k3) (hxx.keep (Kp.spk hw2 k3)) (by omega) hm hdm (by omega)
    repeat (first | refine qqm rfl ?_ | ((first | refine qqr ?_ | refine qqt ?_); simp only [SS, qx10, vun, simprocAttr, f10, h3, v5, v6, ff_32]))
    refine AtCall.byX hcm ?_
    rintro v n4 H4 k4 ⟨sp4, _, hres⟩
    rcases hres with ⟨rfl, hbad⟩ | ⟨rfl, ys', S', T', vt', hco, haw, hcome⟩
    · simp only [SS, qx10, vun, simprocAttr, Bool.not_false, ff_32]
      repeat (first | refine qqm rfl ?_ | ((first | refine qqr ?_ | refine qqt ?_); simp only [SS, qx10, vun, simprocAttr, ff_32]))
      first | refine qqf ?_ ?_ | refine qqg ?_ ?_
      · exact fun z hz => ((k2.trans (k3.kx.trans k4)).keep z (by omega) (by omega)).trans (k1.keep z hz)
      · simp only [packed, qv, Nat.reduceEqDiff, ↓reduceIte, ff_32]
        refine ⟨false, S, .fail (T := T) ?_, .inl ⟨rfl, trivial⟩⟩
        have hsp : L = L.take i ++ x :: L.drop (i + 1) := by
          conv => lhs; rw [← List.take_append_drop (i + 1) L, htk]
          simp
        rw [hsp, List.map_append]
        exact hcs.app rfl (.fail hbad)
    · simp only [SS, qx10, vun, simprocAttr, Bool.not_true, ff_32]
      repeat (first | refine qqm rfl ?_ | ((first | refine qqr ?_ | refine qqt ?_); simp only [SS, qx10, vun, simprocAttr, f21, hiw, ff_32]))
      exact ih (L.length - (i + 1)) (by omega) _ ⟨i + 1, S', T', ys', vt', k2.trans (k3.kx.trans k4), hco, by rw [htk, List.map_append]; exact hcs.app rfl (.cons hcome (.nil _ _)), f4, f10, by rw [hp]; exact f19, f20, rfl, hlt, rfl⟩
  · rw [List.take_of_length_le (by omega)] at hcs
    repeat (first | refine qqm rfl ?_ | ((first | refine qqr ?_ | refine qqt ?_); simp only [SS, qx10, vun, simprocAttr, f20, f21, hlt, ff_32]))
    have hGC := hcs.all (P := GC g) (fun y hy => by simp at hy) fun c hc _ => by
      obtain ⟨y, hy, rfl⟩ := List.mem_map.1 hc
      exact hv y hy
    have hGD := hcs.all (P := fun c => c.stack.length ≤ deep) (fun y hy => by simp at hy) fun c hc h => h
    refine WK.loop (fun kk s => ∃ (S T : List CA) (ys : Nat) (vt : Value), Kx (fun z => n + 1 ≤ z) (n + 1) H1 s.n s.H ∧ CO s.H (n + 1) (n + 1) nn ys S T vt deep most ∧ (∀ y ∈ S ++ T, GC g y.1) ∧ (∀ y ∈ S ++ T, y.1.stack.length ≤ deep) ∧
      (∀ b S', Pops g (cl.map (·.2)) deep most S T b S' → Clo g (cl.map (·.2)) deep most (L.map (·.1)) b S') ∧ s.f 4 = .pointer (some ⟨n, 0, none⟩) ∧ s.f 10 = .pointer (some ⟨n + 1, 0, none⟩) ∧ kk = 2 * (most - S.length) + T.length) _ ⟨S, T, ys, vt, k2, hc, hGC, hGD, fun b S' h => .run hcs h, f4, f10, rfl⟩ ?_
    clear k02 k2 hw2 hle2 hGC hGD hcs hc f4 f10 f19 f20 f21 hlt hiL ih
    rintro kk ⟨f', n3, H3⟩ ⟨S, T, ys, vt, k2, hc, hGC, hGD, hpop, f4, f10, rfl⟩ ih
    simp only at k2 hc f4 f10 ih
    have k02 : Kp (n + 1) H1 n3 H3 := k2.kp fun q h1 h2 => by omega
    have hw3 := k02.wf hw1
    have hle3 := k02.le
    have hSm := hc.len
    have hTS := hc.tl
    have hb3 := (k02.keep n (by omega)).trans hb
    rcases List.eq_nil_or_concat T with rfl | ⟨T0, x, rfl⟩
    · have hvt : ∃ pp, vt = .slice pp 0 0 := by
        rcases hc.todo with ⟨e, _⟩ | ⟨yt, cs, e, _⟩
        · exact ⟨_, e⟩
        · exact ⟨_, e⟩
      obtain ⟨pp, rfl⟩ := hvt
      have hobj := hc.obj
      have hdel := delete_gives hw1 k02 ne1 hi hgl hlen (fun x hx => (hGC x (List.mem_append_left _ hx)).1) hb hc.seen hc.sy (by omega)
      have h00 : ((0 : Int) < ((0 : Nat) : Int)) = False := eq_false (by omega)
      repeat (first | refine qqm rfl ?_ | ((first | refine qqr ?_ | refine qqt ?_); simp only [SS, qx10, vun, simprocAttr, f4, f10, hobj, h00, aop_nc, tnc, decide_false, ff_32]))
      refine AtCall.byX hdel ?_
      rintro v n4 H4 k4 ⟨sp4, p', R, rfl, hR, hRN, hTy⟩
      have hSp := sp4
      simp only [SS, qx10, vun, simprocAttr, ff_32]
      repeat (first | refine qqm rfl ?_ | ((first | refine qqr ?_ | refine qqt ?_); simp only [SS, qx10, vun, simprocAttr, ff_32]))
      first | refine qqf ?_ ?_ | refine qqg ?_ ?_
      · exact fun z hz => ((k2.trans k4).keep z (by omega) (by omega)).trans (k1.keep z hz)
      · simp only [packed, qv, Nat.reduceEqDiff, ↓reduceIte, ff_32]
        refine ⟨true, S, hpop _ _ (.done S), .inr ⟨rfl, hc.srt, hc.len, hc.dp, fun x hx => hGC x (List.mem_append_left _ hx), p', R, hR, rfl, hRN, fun x hx => ?_, hTy⟩⟩
        rw [hR, List.mem_filter] at hx
        exact (hc.st x (List.mem_append_left _ hx.1)).keep sp4
    · rw [List.concat_eq_append] at hc hGC hGD hpop hTS ih
      have hTl : (T0 ++ [x]).length = T0.length + 1 := by simp
      rw [hTl] at ih
      rw [hTl] at hTS
      rcases hc.todo with ⟨_, e⟩ | ⟨yt, cs, rfl, hyN, hyt, hlc, hcs⟩
      · simp at e
      rw [hTl] at hlc hcs
      have hobj := hc.obj
      rw [hTl] at hobj
      have h0 : (0 : Int) < ((T0.length + 1 : Nat) : Int) := by omega
      have hkw : IntKind.i64.wrap (((T0.length + 1 : Nat) : Int) - 1) = (T0.length : Int) := by rw [wrap_in (by omega) (by omega)]; omega
      have hlt : T0.length < T0.length + 1 := Nat.lt_succ_self _
      have hle : T0.length ≤ T0.length + 1 := Nat.le_succ _
      have hfit : T0.length * 4 + 4 ≤ cs.length := by omega
      have hflat : cs.take (T0.length * 4) = T0.flatMap ccell ∧ (cs.drop (T0.length * 4)).take 4 = ccell x := by
        rw [List.flatMap_append, List.flatMap_singleton] at hcs
        have hfl : (T0.flatMap ccell).length = T0.length * 4 := fm_len ccell_len _
        constructor
        · have h := congrArg (List.take (T0.length * 4)) hcs
          rw [List.take_take, Nat.min_eq_left (by omega), List.take_append_of_le_length (by omega)] at h
          exact h.trans (List.take_of_length_le (by omega))
        · have h := congrArg (List.drop (T0.length * 4)) hcs
          have h9 : (T0.flatMap ccell).drop (T0.length * 4) = [] := List.drop_of_length_le (by omega)
          rw [List.drop_take, List.drop_append, h9, hfl, Nat.sub_self, List.nil_append, List.drop_zero, show (T0.length + 1) * 4 - T0.length * 4 = 4 by omega] at h
          exact h
      obtain ⟨htk, hel⟩ := hflat
      have k3 := Kp.new n3 H3 (.cells (ccell x) 82 true)
      have h3 := hset_at H3 n3 (.cells (ccell x) 82 true)
      have hc3 := hc.kp hw3 k3
      repeat refine qqn rfl ?_
      (refine qqr ?_; simp only [SS, qx10, vun, simprocAttr, f10, hobj, h0, aop_nc, tnc, ff_32])
      repeat refine qqn rfl ?_
      refine qqm rfl ?_
      repeat refine qqn rfl ?_
      (refine qqr ?_; simp only [SS, qx10, vun, simprocAttr, f10, hobj, hkw, hlt, hyt, hel, hfit, v1, v2, v5, v7, aop_nc, tnc, Nat.zero_add, ff_32])
      generalize hset H3 n3 (.cells (ccell x) 82 true) = H4 at *
      have hobj4 := hc3.obj
      rw [hTl] at hobj4
      have hyt4 := (k3.keep yt (live_lt hw3 (live_of hyt))).trans hyt
      repeat refine qqn rfl ?_
      (refine qqr ?_; simp only [SS, qx10, vun, simprocAttr, f10, hobj4, hyt4, hkw, hle, aop_nc, tnc, implies_true, Nat.zero_mul, Nat.add_zero, Nat.sub_zero, ff_32])
      have hw4 := k3.wf hw3
      have k24 := k2.trans k3.kx
      have hcl4 : n + 1 < n3 + 1 := by have := live_lt hw3 (live_of hobj); omega
      have hytn : yt ≠ n + 1 := by intro e; rw [e, hobj4] at hyt4; cases hyt4
      have hysn : S ≠ [] → ys ≠ n + 1 := by
        intro hne e
        obtain ⟨c, hc1, _⟩ := hc3.seen hne
        rw [e, hobj4] at hc1; cases hc1
      have k5 := k24.set (x := n + 1) (.cells [.pointer (some ⟨nn, 0, none⟩), sl ys S.length, .slice (some ⟨yt, 0, none⟩) T0.length T0.length, .int .i64 (deep : Nat), .int .i64 (most : Nat)] 99 true) (.inl (Nat.le_refl _)) hcl4
      have h5 := hset_at H4 (n + 1) (.cells [.pointer (some ⟨nn, 0, none⟩), sl ys S.length, .slice (some ⟨yt, 0, none⟩) T0.length T0.length, .int .i64 (deep : Nat), .int .i64 (most : Nat)] 99 true)
      have h5n : ∀ q, q ≠ n + 1 → hset H4 (n + 1) (.cells [.pointer (some ⟨nn, 0, none⟩), sl ys S.length, .slice (some ⟨yt, 0, none⟩) T0.length T0.length, .int .i64 (deep : Nat), .int .i64 (most : Nat)] 99 true) q = H4 q := fun q hq => hset_ne _ _ _ hq
      generalize hset H4 (n + 1) (.cells [.pointer (some ⟨nn, 0, none⟩), sl ys S.length, .slice (some ⟨yt, 0, none⟩) T0.length T0.length, .int .i64 (deep : Nat), .int .i64 (most : Nat)] 99 true) = H5 at *
      have sp5 : SpK H4 H5 := fun z c own hz => by
        by_cases e : z = n + 1
        · rw [e, hobj4] at hz; cases hz
        · rw [h5n z e]; exact hz
      have hx5 : XC H5 x := (hc3.st x (by simp)).keep sp5
      have hc5 : CO H5 (n + 1) (n + 1) nn ys S T0 (.slice (some ⟨yt, 0, none⟩) T0.length T0.length) deep most := {
        obj := h5
        co := Nat.le_refl _
        seen := hc3.seen.keep fun hne _ => h5n ys (hysn hne)
        sy := hc3.sy
        todo := .inr ⟨yt, cs, rfl, hyN, (h5n yt hytn).trans hyt4, by omega, htk⟩
        ne := fun hne yt' k m c e => by cases e; exact hc3.ne hne yt _ _ _ rfl
        st := fun y hy => (hc3.st y (by
          rcases List.mem_append.1 hy with hy | hy
          · exact List.mem_append_left _ hy
          · exact List.mem_append_right _ (List.mem_append_left _ hy))).keep sp5
        srt := hc3.srt
        len := hc3.len
        tl := by omega
        dp := hc3.dp }
      have h35 := (h5n n3 (by intro e; rw [e, hobj4] at h3; cases h3)).trans h3
      have k05 : Kp (n + 1) H1 (n3 + 1) H5 := k5.kp fun q h1 h2 => by omega
      have hGx := hGC x (by simp)
      have hst := step_gives hw1 k05 ne1 ok hc5 hx5 hm hdm (by have := hGD x (by simp); omega) hGx.1.1 hGx.1.2
      repeat (first | refine qqm rfl ?_ | ((first | refine qqr ?_ | refine qqt ?_); simp only [SS, qx10, vun, simprocAttr, f10, h35, v5, v6, ff_32]))
      refine AtCall.byX hst ?_
      rintro v n6 H6 k6 ⟨sp6, b, S', T', rfl, hcs6, hco6⟩
      cases b with
      | false =>
        simp only [SS, qx10, vun, simprocAttr, Bool.not_false, ff_32]
        repeat (first | refine qqm rfl ?_ | ((first | refine qqr ?_ | refine qqt ?_); simp only [SS, qx10, vun, simprocAttr, ff_32]))
        first | refine qqf ?_ ?_ | refine qqg ?_ ?_
        · exact fun z hz => ((k5.trans k6).keep z (by omega) (by omega)).trans (k1.keep z hz)
        · simp only [packed, qv, Nat.reduceEqDiff, ↓reduceIte, ff_32]
          exact ⟨false, S', hpop _ _ (.fail hcs6), .inl ⟨rfl, trivial⟩⟩
      | true =>
        obtain ⟨ys', vt', hco'⟩ := hco6 rfl
        have hlen6 := hcs6.len
        have hlm := hco'.len
        have hsub : ∀ y ∈ S ++ T0, y ∈ S ++ (T0 ++ [x]) := fun y hy => by
          rcases List.mem_append.1 hy with hy | hy
          · exact List.mem_append_left _ hy
          · exact List.mem_append_right _ (List.mem_append_left _ hy)
        simp only [SS, qx10, vun, simprocAttr, Bool.not_true, ff_32]
        repeat (first | refine qqm rfl ?_ | ((first | refine qqr ?_ | refine qqt ?_); simp only [SS, qx10, vun, simprocAttr, ff_32]))
        exact ih (2 * (most - S'.length) + T'.length) (by omega) _ ⟨S', T', ys', vt', k5.trans k6, hco', hcs6.all (fun y hy => hGC y (hsub y hy)) fun c hc _ => step_gc hclV hGx c hc, hcs6.all (P := fun c => c.stack.length ≤ deep) (fun y hy => hGD y (hsub y hy)) fun c hc h => h, fun b S2 h => hpop _ _ (.step hcs6 h), f4, f10, rfl⟩
end Go.Proofs.YtjlgpanihjnaeaaGreatDoor
