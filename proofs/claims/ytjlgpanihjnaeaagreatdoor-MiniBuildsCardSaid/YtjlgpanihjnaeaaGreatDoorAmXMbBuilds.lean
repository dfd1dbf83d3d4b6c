/- A part of a proof. Its conditions: none. -/
import Derived.Test.YtjlgpanihjnaeaaGreatDoorAmXLfRef9A
import Derived.Test.YtjlgpanihjnaeaaGreatDoorAmXDfNe
import Derived.Test.YtjlgpanihjnaeaaGreatDoorAmC
import Derived.Test.YtjlgpanihjnaeaaGreatDoorAmXMbStr
import Derived.Test.YtjlgpanihjnaeaaGreatDoorAmXMbLeast
import Derived.Test.YtjlgpanihjnaeaaGreatDoorAmXMbSame
set_option linter.all false
namespace Go.Proofs.YtjlgpanihjnaeaaGreatDoor
open Go.AM
set_option maxRecDepth 100000
theorem getD0{l:List Int}{t:Nat}(h:t<l.length):l.getD t 0=l.getD t (-1):=by
 rw[List.getD_eq_getElem?_getD,List.getD_eq_getElem?_getD,List.getElem?_eq_getElem h];rfl
theorem runF_sim{N M:List (List Int)}{R Q w:List Int}{W:Nat}(ok:Mini.Ok N R W)(ok':Mini.Ok M Q W):∀(k s u j:Nat),s<N.length→u<M.length→Mini.Sim N R M Q W s u→runF N R w k s j=runF M Q w k u j
 | 0,_,_,_,_,_,_=>rfl
 | k+1,s,u,j,hs,hu,h=>by
  have ih:=runF_sim (w:=w) ok ok' k
  have l1:=ok.len
  have l2:=ok'.len
  have r1:R.getD s 0=Mini.at1 R s:=getD0 (by omega)
  have r2:Q.getD u 0=Mini.at1 Q u:=getD0 (by omega)
  have e:=Mini.sim_bis.rule s u h
  have n1:=ok.row s hs
  have n2:=ok'.row u hu
  have a1:∀t,t<W→(N.getD s []).getD t 0=Mini.at2 N s t:=fun t ht=>getD0 (by omega)
  have a2:∀t,t<W→(M.getD u []).getD t 0=Mini.at2 M u t:=fun t ht=>getD0 (by omega)
  have go:∀t,t<W→(if 0≤Mini.at2 N s t then runF N R w k (Mini.at2 N s t).toNat (j+1) else(-1,j))=(if 0≤Mini.at2 M u t then runF M Q w k (Mini.at2 M u t).toNat (j+1) else(-1,j)):=fun t ht=>by
   have sg:=Mini.sim_bis.sgn s u h t ht
   by_cases h0:0≤Mini.at2 N s t
   ·have h0':0≤Mini.at2 M u t:=by omega
    rw[if_pos h0,if_pos h0']
    exact ih _ _ _ (ok.nat hs ht h0) (ok'.nat hu ht h0') (Mini.sim_bis.go s u h t ht h0)
   ·rw[if_neg h0,if_neg (by omega)]
  have c1:s<N.length∧s<R.length:=⟨hs,by omega⟩
  have c2:u<M.length∧u<Q.length:=⟨hu,by omega⟩
  unfold runF
  rw[if_pos c1,if_pos c2,r1,r2,e]
  by_cases hc:0≤Mini.at1 Q u∨w.length<j
  ·rw[if_pos hc,if_pos hc]
  ·rw[if_neg hc,if_neg hc]
   simp only[n1,n2]
   by_cases hj:j<w.length
   ·rw[if_pos hj,if_pos hj]
    by_cases hr:0≤w.getD j 0∧w.getD j 0<(W:Int) - 1
    ·have ht:(w.getD j 0).toNat<W:=by omega
     have:=go _ ht
     rw[a1 _ ht,a2 _ ht]
     simp only[hr.1,hr.2,true_and]
     exact this
    ·rw[if_neg (fun h=>hr ⟨h.1,h.2.1⟩),if_neg (fun h=>hr ⟨h.1,h.2.1⟩)]
   ·rw[if_neg hj,if_neg hj]
    have hw0:=ok.wpos
    have ht:W - 1<W:=by omega
    have:=go _ ht
    rw[a1 _ ht,a2 _ ht]
    simp only[hw0,true_and]
    exact this
theorem least_wa{N:List (List Int)}{R:List Int}{w:Nat}{M:List (List Int)}{Q:List Int}(ok:Mini.Ok N R w)(ws:WA N R)(hN:N.length≤1000)(hw:w≤1000)(a:Mini.Least N R w M Q):M.length≤N.length∧WA M Q:=by
 obtain⟨okM,_,_⟩:=Mini.Least.facts ok a
 obtain⟨kf,m,_,hj,hm,rfl,rfl⟩:=a.ex
 have hl:=Mini.liter_lt (kf:=kf) ok m hj
 have hle:(Mini.liter N kf m).2.length≤N.length:=by
  have h1:=hl.st.len
  have h2:=hl.len
  omega
 refine⟨hle,?_,?_,fun l hl=>?_,fun y hy=>?_⟩
 ·unfold maxL;omega
 ·have:=okM.len;unfold maxL;omega
 ·obtain⟨i,hi,rfl⟩:=List.getElem_of_mem hl
  have hr:=okM.row i hi
  rw[Mini.getD_at [] hi]at hr
  refine⟨by unfold maxL;omega,fun y hy=>?_⟩
  obtain⟨t,ht,rfl⟩:=List.getElem_of_mem hy
  have h1:=okM.lo i hi t (by omega)
  have h2:=okM.hi i hi t (by omega)
  rw[Mini.at2_at hi ht]at h1 h2
  unfold inI
  omega
 ·obtain⟨s,hs,rfl⟩:=List.mem_map.1 hy
  have hlt:=hl.st.lt s hs
  have:=ok.len
  rw[Mini.at1_at (by omega)]
  exact ws.rule _ (List.getElem_mem _)
variable {g:Gram} {dp pl st:Nat} {d:DS}
theorem Is.lt{k:Nat}{rule:Int}{l:List Cfg}(h:Is d k rule l):k<d.rules.length:=(List.getElem?_eq_some_iff.1 h.1).1
theorem To.rng{C:List Cfg}{q:Int}(h:To d C q) : -1≤q∧q<d.rules.length:=by
 obtain⟨R,_,⟨_,rfl⟩|⟨a,k,_,_,rfl,hI⟩|⟨_,k,rfl,hI⟩⟩:=h
 ·exact⟨by omega,by omega⟩
 ·have:=hI.lt;exact⟨by omega,by omega⟩
 ·have:=hI.lt;exact⟨by omega,by omega⟩
theorem En.rng{C:List Cfg}{q:Int}(h:En g d C q) : -1≤q∧q<d.rules.length:=by
 obtain⟨R,_,⟨_,rfl⟩|⟨a,k,_,_,rfl,hI⟩⟩:=h
 ·exact⟨by omega,by omega⟩
 ·have:=hI.lt;exact⟨by omega,by omega⟩
theorem Aut.ok(h:Aut g dp pl st d)(hp:0<d.rules.length):Mini.Ok (d.rows.map (·.2)) d.rules (g.terms.length+1):=by
 have hl:=h.ln
 have hr:=h.lr
 have hrow:∀s,s<d.rows.length→∃row,d.rows[s]? = some row∧(d.rows.map (·.2)).getD s []=row.2∧row.2.length=g.terms.length+1:=fun s hs =>
  ⟨_,List.getElem?_eq_getElem hs,by rw[List.getD_eq_getElem?_getD,List.getElem?_map,List.getElem?_eq_getElem hs];rfl,h.rw _ (List.getElem_mem hs)⟩
 have key:∀s,s<d.rows.length→Sml (Mini.at1 d.rules s)∧∀t,t<g.terms.length+1 → -1≤Mini.at2 (d.rows.map (·.2)) s t∧Mini.at2 (d.rows.map (·.2)) s t<d.rules.length∧(0≤Mini.at2 (d.rows.map (·.2)) s t→Mini.at1 d.rules s<0):=fun s hs=>by
  obtain⟨row,e1,e2,e3⟩:=hrow s hs
  have hs':s<d.rules.length:=by omega
  have er:d.rules[s]? = some (Mini.at1 d.rules s):=by rw[Mini.at1_at hs',List.getElem?_eq_getElem hs']
  obtain⟨z1,z2⟩:=h.rz s _ row er e1
  refine⟨z1,fun t ht=>?_⟩
  unfold Mini.at2
  rw[e2]
  by_cases h0:0≤Mini.at1 d.rules s
  ·have:=z2 h0 row.2[t] (List.getElem_mem _)
   rw[Mini.at1_at (by omega),this]
   exact⟨by omega,by omega,fun h=>by omega⟩
  ·have hm:Mini.at1 d.rules s = -1:=by have:=z1.1;omega
   rw[hm]at er
   obtain⟨d1,d2⟩:=h.dn s _ row er (List.getElem?_eq_getElem (by omega)) e1
   have e4:Mini.at1 row.2 t=row.2.getD t 0:=(getD0 (by omega)).symm
   rw[e4]
   have hr : -1≤row.2.getD t 0∧row.2.getD t 0<d.rules.length:=by
    by_cases htl:t<g.terms.length
    ·obtain⟨C,_,hT⟩:=d1 t htl
     exact hT.rng
    ·obtain rfl:t=g.terms.length:=by omega
     exact d2.rng
   exact⟨hr.1,hr.2,fun _=>by omega⟩
 have ll:(d.rows.map (·.2)).length=d.rows.length:=List.length_map _
 exact
  {
   pos:=by rw[ll];omega
   len:=by rw[ll];omega
   wpos:=by omega
   row:=fun s hs=>by rw[ll]at hs;obtain⟨row,_,e2,e3⟩:=hrow s hs;rw[e2];exact e3
   rule:=fun s hs=>by rw[ll]at hs;exact(key s hs).1.1
   lo:=fun s hs t ht=>by rw[ll]at hs;exact((key s hs).2 t ht).1
   hi:=fun s hs t ht=>by rw[ll]at hs ⊢;have:=((key s hs).2 t ht).2.1;omega
   fin:=fun s hs t ht=>by rw[ll]at hs;exact((key s hs).2 t ht).2.2 }
theorem Aut.wa(h:Aut g dp pl st d)(hst:st≤256)(hp:0<d.rules.length)(hg:g.terms.length≤64):WA (d.rows.map (·.2)) d.rules:=by
 have ok:=h.ok hp
 have hl:=h.ln
 have hr:=h.lr
 have hc:=h.cp
 have ll:(d.rows.map (·.2)).length=d.rows.length:=List.length_map _
 refine⟨by rw[ll];unfold maxL;omega,by unfold maxL;omega,fun l hl=>?_,fun y hy=>?_⟩
 ·obtain⟨i,hi,rfl⟩:=List.getElem_of_mem hl
  have hr:=ok.row i hi
  rw[Mini.getD_at [] hi]at hr
  refine⟨by unfold maxL;omega,fun y hy=>?_⟩
  obtain⟨t,ht,rfl⟩:=List.getElem_of_mem hy
  have h1:=ok.lo i hi t (by omega)
  have h2:=ok.hi i hi t (by omega)
  rw[Mini.at2_at hi ht]at h1 h2
  unfold inI
  omega
 ·obtain⟨s,hs,rfl⟩:=List.getElem_of_mem hy
  have hs':s<d.rows.length:=by omega
  obtain⟨z1,z2⟩:=(h.rz s _ _ (List.getElem?_eq_getElem hs) (List.getElem?_eq_getElem hs')).1
  unfold inI
  omega
end Go.Proofs.YtjlgpanihjnaeaaGreatDoor

namespace Go.Proofs.YtjlgpanihjnaeaaGreatDoor
open Go.AM Go.AM.Fo
set_option maxRecDepth 100000
theorem wa_nil:WA [] []:=⟨Nat.zero_le _,Nat.zero_le _,fun _ h=>(by cases h),fun _ h=>by cases h⟩
set_option maxHeartbeats 16000000 in
theorem builds_gives{vg:Value}{g:Gram}{v:Int}{pw:Option Addr}{w:List Int}{n:Nat}{H:Heap}(hw:WF n H)(hGl:∀z,G z≠.dead→H z=G z)(hg:RG H vg g)(wg:WG g)(hpw:RA (Value.int .i64) H pw w) :
  Gives Tryz.prog 3 [vg,.int .i64 v,.slice pw w.length w.length] n H fun r _ _=>r=.bool true:=by
 have hg0:=hg
 have hT0:=tens_of hGl
 obtain⟨pt,pv,pr,rfl,ht,hvs,hr⟩:=hg
 refine Gives.of orders ok3 (Nat.le_of_ble_eq_true rfl) ?_
 have g2:((gcells pt pv pr g).drop 0).take 3=gcells pt pv pr g:=rfl
 have g3:(gcells pt pv pr g).length=3:=rfl
 repeat refine qqn rfl ?_
 (refine qqr ?_;simp only[SS,qx5,vun,simprocAttr,abox,box_cells,box_one,ff_3])
 have k1:=Kp.new n H (.cells (gcells pt pv pr g) 25 true)
 have hG:=hset_at H n (.cells (gcells pt pv pr g) 25 true)
 generalize hset H n (.cells (gcells pt pv pr g) 25 true)=H1 at *
 have hw1:=k1.wf hw
 have hg1:RG H1 (.agg (gcells pt pv pr g).toArray) g:=hg0.mono hw k1
 have hG1:∀z,G z≠.dead→H1 z=G z:=fun z hz=>by
  have h:=hGl z hz
  rw[k1.keep z (live_lt0 hw (by rw[h];exact hz)),h]
 repeat (first|refine qqm rfl ?_|((first|refine qqr ?_|refine qqt ?_);simp only[SS,qx5,vun,simprocAttr,ff_3]))
 refine AtCall.by (alive16_gives _ _ hG1) ?_
 rintro _ n2 H2 k2 ⟨rfl,hn2,hH2⟩
 subst hn2
 obtain rfl:=hH2.symm
 simp only[SS,qx5,vun,simprocAttr,ff_3]
 repeat (first|refine qqm rfl ?_|((first|refine qqr ?_|refine qqt ?_);simp only[SS,qx5,vun,simprocAttr,hG,g2,g3,ff_3]))
 refine AtCall.by (whole12_gives hw1 hg1 wg) ?_
 rintro _ n3 H3 k3 ⟨t,rfl,ht0⟩
 have hw3:=k3.wf hw1
 have hle3:=k3.le
 have k13:=k1.trans k3
 have hG3:=(k3.keep n (by omega)).trans hG
 rcases ht0 with rfl|⟨rfl,okx,hfew,hall⟩
 ·simp only[SS,qx5,vun,simprocAttr,decide_true,ff_3]
  repeat (first|refine qqm rfl ?_|((first|refine qqr ?_|refine qqt ?_);simp only[SS,qx5,vun,simprocAttr,ff_3]))
  first|refine qqf ?_ ?_|refine qqg ?_ ?_
  ·exact k13.keep
  ·simp only[packed,qv,Nat.reduceEqDiff,↓reduceIte,ff_3]
 have ok:=okx.toRightOK
 unfold few at hfew
 simp only[Bool.and_eq_true,decide_eq_true_eq,List.all_eq_true]at hfew
 obtain⟨⟨⟨fw1,fw2⟩,fw3⟩,fw4⟩:=hfew
 have h10:((1:Int)=0)=False:=eq_false (by decide)
 by_cases hwl:20<w.length
 ·have hwl':((20:Int)<(w.length:Int))=True:=eq_true (by omega)
  simp only[SS,qx5,vun,simprocAttr,h10,hwl',decide_true,decide_false,ff_3]
  repeat (first|refine qqm rfl ?_|((first|refine qqr ?_|refine qqt ?_);simp only[SS,qx5,vun,simprocAttr,ff_3]))
  first|refine qqf ?_ ?_|refine qqg ?_ ?_
  ·exact k13.keep
  ·simp only[packed,qv,Nat.reduceEqDiff,↓reduceIte,ff_3]
 have hwl':((20:Int)<(w.length:Int))=False:=eq_false (by omega)
 simp only[SS,qx5,vun,simprocAttr,h10,hwl',decide_false,ff_3]
 repeat (first|refine qqm rfl ?_|((first|refine qqr ?_|refine qqt ?_);simp only[SS,qx5,vun,simprocAttr,hG3,g2,g3,ff_3]))
 refine AtCall.by (build_gives (dp:=8) (pl:=100) (st:=40) hw3 (hg0.mono hw k13) wg ok (by omega) (by omega) (by omega) (by omega)) ?_
 rintro _ n4 H4 k4 ⟨dv,b,N,R,rfl,hrd,hlN,hbf,hbt⟩
 have hw4:=k4.wf hw3
 have hle4:=k4.le
 have k14:=k13.trans k4
 have hrd0:=hrd
 obtain⟨a,bb,rfl,hN,hR⟩:=hrd
 have sp2:∀x y:Value,AM.splice [x,y] 0 (acells a bb N R)=acells a bb N R:=fun _ _=>rfl
 have kD:=Kp.new n4 H4 (.cells (acells a bb N R) 31 true)
 have hDb:=hset_at H4 n4 (.cells (acells a bb N R) 31 true)
 simp only[SS,qx5,vun,simprocAttr,List.toList_toArray,ff_3]
 repeat (first|refine qqm rfl ?_|((first|refine qqr ?_|refine qqt ?_);simp only[SS,qx5,vun,simprocAttr,abox_cells,abox_one,ac_len,sp2,ff_3]))
 generalize hset H4 n4 (.cells (acells a bb N R) 31 true)=H5 at *
 have hw5:=kD.wf hw4
 have k15:=k14.trans kD
 have hrd5:=hrd0.mono hw4 kD
 cases b with
 | false =>
  obtain⟨rfl,rfl⟩:=hbf rfl
  repeat (first|refine qqm rfl ?_|((first|refine qqr ?_|refine qqt ?_);simp only[SS,qx5,vun,simprocAttr,Bool.not_false,hDb,ac_all,ac_len,ff_3]))
  refine AtCall.by (mright_gives hw5 hrd5 wa_nil) ?_
  rintro _ n6 H6 k6 rfl
  have hnr:Mini.rightB [] []=false:=rfl
  rw[hnr]
  simp only[SS,qx5,vun,simprocAttr,Bool.not_false,ff_3]
  repeat (first|refine qqm rfl ?_|((first|refine qqr ?_|refine qqt ?_);simp only[SS,qx5,vun,simprocAttr,ff_3]))
  first|refine qqf ?_ ?_|refine qqg ?_ ?_
  ·exact(k15.trans k6).keep
  ·simp only[packed,qv,Nat.reduceEqDiff,↓reduceIte,ff_3]
 | true =>
  obtain⟨hv0,hv1,d,q,rfl,rfl,hA,hT,hq⟩:=hbt rfl
  obtain rfl:=start_0 ok hall hv0 hv1 hT hq
  obtain⟨C,hC,hTo⟩:=hT
  have hp:0<d.rules.length:=by have:=hTo.rng.2;omega
  have okN:=hA.ok hp
  have ws:=hA.wa (by omega) hp (by have:=ok.terms;omega)
  have hl1:=hA.ln
  have hl2:=hA.lr
  have hl3:=hA.cp
  have hW0:((d.rows.map (·.2)).getD 0 []).length=g.terms.length+1:=okN.row 0 okN.pos
  have hrN:Mini.rightB (d.rows.map (·.2)) d.rules=true:=(Mini.rightB_iff _ _).2 (by rw[hW0];exact okN)
  have hRs:∀y∈d.rules,y<100:=fun y hy=>by
   obtain⟨s,hs,rfl⟩:=List.getElem_of_mem hy
   exact(hA.rz s _ _ (List.getElem?_eq_getElem hs) (List.getElem?_eq_getElem (by omega))).1.2
  have hNl:(d.rows.map (·.2)).length≤40:=by rw[List.length_map];omega
  have htm:=ok.terms
  generalize d.rows.map (·.2)=N at *
  generalize d.rules=R at *
  repeat (first|refine qqm rfl ?_|((first|refine qqr ?_|refine qqt ?_);simp only[SS,qx5,vun,simprocAttr,Bool.not_true,hDb,ac_all,ac_len,ff_3]))
  refine AtCall.by (least_gives hw5 (hT0.kp hw k15) hrd5 ws hRs (by omega) (by omega)) ?_
  rintro _ n6 H6 k6 ⟨M,Q,hdM,_,hL⟩
  have hL:=hL hrN
  rw[hW0]at hL
  obtain⟨okM,hsim,_⟩:=Mini.Least.facts okN hL
  obtain⟨hMN,wsM⟩:=least_wa okN ws (by omega) (by omega) hL
  have hrM:Mini.rightB M Q=true:=(Mini.rightB_iff M Q).2 (by rw[okM.row 0 okM.pos];exact okM)
  have hWM:((M).getD 0 []).length=g.terms.length+1:=okM.row 0 okM.pos
  have hru:=runF_sim (w:=w) okN okM (w.length+2) 0 0 0 okN.pos okM.pos hsim
  have hrowM:∀l∈M,l.length≤65536:=fun l hl=>by
   obtain⟨i,hi,rfl⟩:=List.getElem_of_mem hl
   have hr:=okM.row i hi
   rw[Mini.getD_at [] hi]at hr
   omega
  have hw6:=k6.wf hw5
  have hle6:=k6.le
  have k16:=k15.trans k6
  have hDb6:=(k6.keep n4 (by omega)).trans hDb
  have hrd6:=hrd5.mono hw5 k6
  have hdM0:=hdM
  obtain⟨c,e,rfl,hM,hQ⟩:=hdM
  have sp3:∀x y:Value,AM.splice [x,y] 0 (acells c e M Q)=acells c e M Q:=fun _ _=>rfl
  have kM:=Kp.new n6 H6 (.cells (acells c e M Q) 31 true)
  have hMb:=hset_at H6 n6 (.cells (acells c e M Q) 31 true)
  simp only[SS,qx5,vun,simprocAttr,abox_cells,abox_one,ac_len,ff_3]
  repeat (first|refine qqm rfl ?_|((first|refine qqr ?_|refine qqt ?_);simp only[SS,qx5,vun,simprocAttr,abox_cells,abox_one,ac_len,sp3,ff_3]))
  generalize hset H6 n6 (.cells (acells c e M Q) 31 true)=H7 at *
  have hw7:=kM.wf hw6
  have k17:=k16.trans kM
  have hDb7:=(kM.keep n4 (by omega)).trans hDb6
  have hrd7:=hrd6.mono hw6 kM
  have hdM7:=hdM0.mono hw6 kM
  simp only[SS,qx5,vun,simprocAttr,hDb7,ac_all,ac_len,ff_3]
  refine AtCall.by (run_gives hw7 hrd7 (hpw.mono hw k17) (by omega) fun l hl=>by have:=hlN l hl;omega) ?_
  rintro _ n8 H8 k8 rfl
  have hw8:=k8.wf hw7
  have hle8:=k8.le
  have k18:=k17.trans k8
  have hDb8:=(k8.keep n4 (by omega)).trans hDb7
  have hMb8:=(k8.keep n6 (by omega)).trans hMb
  simp only[SS,qx5,vun,simprocAttr,List.toList_toArray,ff_3]
  repeat (first|refine qqm rfl ?_|((first|refine qqr ?_|refine qqt ?_);simp only[SS,qx5,vun,simprocAttr,hMb8,ac_all,ac_len,ff_3]))
  refine AtCall.by (run_gives hw8 (hdM7.mono hw7 k8) (hpw.mono hw k18) (by omega) hrowM) ?_
  rintro _ n9 H9 k9 rfl
  have hw9:=k9.wf hw8
  have hle9:=k9.le
  have k19:=k18.trans k9
  have hDb9:=(k9.keep n4 (by omega)).trans hDb8
  have hMb9:=(k9.keep n6 (by omega)).trans hMb8
  have hrd9:=(hrd7.mono hw7 k8).mono hw8 k9
  have hdM9:=(hdM7.mono hw7 k8).mono hw8 k9
  rw[←hru]
  obtain⟨e1,u,hru1⟩:∃e1 u,runF N R w (w.length+2) 0 0=(e1,u):=⟨_,_,rfl⟩
  rw[hru1]
  simp only[SS,qx5,vun,simprocAttr,List.toList_toArray,ff_3]
  repeat (first|refine qqm rfl ?_|((first|refine qqr ?_|refine qqt ?_);simp only[SS,qx5,vun,simprocAttr,hDb9,ac_all,ac_len,ff_3]))
  refine AtCall.by (mright_gives hw9 hrd9 ws) ?_
  rintro _ nA HA kA rfl
  have hwA:=kA.wf hw9
  have hleA:=kA.le
  have k1A:=k19.trans kA
  have hDbA:=(kA.keep n4 (by omega)).trans hDb9
  have hMbA:=(kA.keep n6 (by omega)).trans hMb9
  rw[hrN]
  simp only[SS,qx5,vun,simprocAttr,hMbA,ac_all,ac_len,ff_3]
  refine AtCall.by (mright_gives hwA (hdM9.mono hw9 kA) wsM) ?_
  rintro _ nB HB kB rfl
  have hwB:=kB.wf hwA
  have hleB:=kB.le
  have k1B:=k1A.trans kB
  have hDbB:=(kB.keep n4 (by omega)).trans hDbA
  have hMbB:=(kB.keep n6 (by omega)).trans hMbA
  rw[hrM]
  simp only[SS,qx5,vun,simprocAttr,hDbB,hMbB,ac_all,ac_len,ff_3]
  refine AtCall.by (msame_gives hwB ((hrd9.mono hw9 kA).mono hwA kB) ((hdM9.mono hw9 kA).mono hwA kB) ws wsM (by omega) (by omega)) ?_
  rintro _ nC HC kC ⟨t,rfl,htt⟩
  obtain rfl:t=true:=htt.2 ⟨hrN,hrM,hW0.trans hWM.symm,by rw[hW0];exact hsim⟩
  have hleC:=kC.le
  have k1C:=k1B.trans kC
  have hDbC:=(kC.keep n4 (by omega)).trans hDbB
  have hMbC:=(kC.keep n6 (by omega)).trans hMbB
  have hee:(e1=e1)=True:=eq_self _
  have heu:((u:Int)=(u:Int))=True:=eq_self _
  have hlen:((M.length:Int)≤(N.length:Int))=True:=eq_true (by omega)
  simp only[SS,qx5,vun,simprocAttr,hee,heu,hDbC,hMbC,ac_0,ac_len,hlen,decide_true,ff_3]
  repeat (first|refine qqm rfl ?_|((first|refine qqr ?_|refine qqt ?_);simp only[SS,qx5,vun,simprocAttr,ff_3]))
  first|refine qqf ?_ ?_|refine qqg ?_ ?_
  ·exact k1C.keep
  ·simp only[packed,qv,Nat.reduceEqDiff,↓reduceIte,ff_3]
end Go.Proofs.YtjlgpanihjnaeaaGreatDoor
