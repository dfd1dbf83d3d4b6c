/- A part of a proof. Its conditions: none. -/
import Derived.Test.YtjlgpanihjnaeaaGreatDoorAmXMbStr
import Derived.Test.YtjlgpanihjnaeaaGreatDoorAmXAtMv2
import Derived.Test.YtjlgpanihjnaeaaGreatDoorAmXDfSt
import Derived.Test.YtjlgpanihjnaeaaGreatDoorAmC
set_option linter.all false
namespace Go.Proofs.YtjlgpanihjnaeaaGreatDoor
open Go.AM
set_option maxRecDepth 100000
theorem und_mi:Tryz.prog.underlying 57=some (.map 3 3):=by kernel_rfl
theorem und_str:Tryz.prog.underlying 9=some .string:=by kernel_rfl
theorem und_int:Tryz.prog.underlying 3=some (.int .i64):=by kernel_rfl
theorem ints_at{K:List Int}{i:Nat}(h:i<K.length):(K.map (Value.int .i64))[i]? = some (.int .i64 (Mini.at1 K i)):=by
 rw[List.getElem?_map,List.getElem?_eq_getElem h,Mini.at1_at h];rfl
theorem cat_ok{a b:List UInt8}(h:a.length+b.length≤4000000):(IntKind.i64.max<(((BA a).size+(BA b).size:Nat):Int))=False:=by
 have:IntKind.i64.max=9223372036854775807:=rfl
 simp only[ba_size,this,eq_iff_iff,iff_false];omega
theorem bsp:({ data:=#[32] }:ByteArray)=BA [32]:=rfl
theorem known_yes{κ:Type}[DecidableEq κ](f:Nat→κ)(s:Nat)(h:f s∈Mini.known f s):Mini.known f (s+1)=Mini.known f s:=if_pos h
theorem known_no{κ:Type}[DecidableEq κ](f:Nat→κ)(s:Nat)(h:f s∉Mini.known f s):Mini.known f (s+1)=Mini.known f s++[f s]:=if_neg h
theorem dL_len:∀l:List Int,(∀z,z∈l→(dI z).length≤20)→(dL l).length≤21*l.length
 | [],_=>by simp[dL]
 | z::l,h=>by
  have key:∀m:List Int,(∀z,z∈m→(dI z).length≤20)→(m.flatMap fun x=>32::dI x).length≤21*m.length:=fun m=>by
   induction m with
   | nil=>intro _;simp
   | cons z m ihm=>intro h;have h1:=h z (List.mem_cons_self ..);have h2:=ihm fun q hq=>h q (List.mem_cons_of_mem _ hq);simp only[List.flatMap_cons,List.length_append,List.length_cons];omega
  have h1:=h z (List.mem_cons_self ..)
  have h2:=key l fun q hq=>h q (List.mem_cons_of_mem _ hq)
  simp only[dL,List.length_append,List.length_cons];omega
theorem key_good{N:List (List Int)}{R K:List Int}{w c:Nat}(ok:Mini.Ok N R w)(rnd:Mini.Rnd N R w K c)(hK:∀q,q<N.length→Mini.at1 K q<N.length)(hN:N.length≤99)(hwl:w≤1000)(ws:WA N R){s:Nat}(hs:s<N.length):goodS (Mini.key N R K s):=by
 have hl:=ok.row s hs
 refine⟨by unfold Mini.key;simp,?_⟩
 have h1:=dL_len (Mini.key N R K s) fun z hz=>by
  unfold Mini.key at hz
  rcases List.mem_cons.1 hz with rfl|hz
  ·have:=rnd.nn s hs;have:=hK s hs;exact dI_len _ (by omega) (by omega)
  ·rcases List.mem_cons.1 hz with rfl|hz
   ·have h3:=ok.rule s hs
    have hsr:s<R.length:=by have:=ok.len;omega
    have h4:Mini.at1 R s≤9223372036854775807:=by rw[Mini.at1_at hsr];exact(ws.rule _ (List.getElem_mem hsr)).2
    exact dI_len _ (by omega) h4
   ·obtain⟨X,hX,rfl⟩:=List.mem_map.1 hz
    obtain⟨t,ht,rfl⟩:=List.getElem_of_mem hX
    rw[Mini.at2_row]
    have ht':=ht;rw[hl]at ht'
    unfold Mini.tgt
    split
    ·rename_i h0
     have:=rnd.nn _ (ok.nat hs ht' h0);have:=hK _ (ok.nat hs ht' h0);exact dI_len _ (by omega) (by omega)
    ·exact dI_len _ (by omega) (by omega)
 have h2:(Mini.key N R K s).length=w+2:=by unfold Mini.key;rw[List.length_cons,List.length_cons,List.length_map,hl]
 rw[h2]at h1
 omega
theorem known_good{N:List (List Int)}{R K:List Int}{w c:Nat}(ok:Mini.Ok N R w)(rnd:Mini.Rnd N R w K c)(hK:∀q,q<N.length→Mini.at1 K q<N.length)(hN:N.length≤99)(hwl:w≤1000)(ws:WA N R){i:Nat}(hi:i≤N.length):∀a,a∈Mini.known (Mini.key N R K) i→goodS a:=by
 intro a ha
 obtain⟨s,hs,rfl⟩:=(Mini.mem_known _ _ _).1 ha
 exact key_good ok rnd hK hN hwl ws (by omega)
set_option maxHeartbeats 8000000 in
theorem classes_gives{v:Value}{N:List (List Int)}{R:List Int}{w n0:Nat}{H0:Heap}(hw0:WF n0 H0)(ht0:Tens H0)(hd:RD H0 v N R)(ok:Mini.Ok N R w)(ws:WA N R)(hRs:∀y∈R,y<100)(hN:N.length≤99)(hwl:w≤1000) :
  Gives Tryz.prog 20 [v] n0 H0 fun v _ H'=>∃(x:Nat) (K:List Int),v=.slice (some ⟨x,0,none⟩) K.length K.length∧n0≤x∧H' x=.cells (K.map (Value.int .i64)) 3 true∧K.length=N.length∧(∀s,s<N.length→0≤Mini.at1 K s∧Mini.at1 K s<N.length) ∧
   ∀s u,s<N.length→u<N.length→(Mini.at1 K s=Mini.at1 K u↔Mini.Sim N R N R w s u):=by
 obtain⟨a,b,rfl,hN0,hR0⟩:=hd
 refine Gives.of orders ok20 (Nat.le_of_ble_eq_true rfl) ?_
 have hk:=Kp.new n0 H0 (.cells (acells a b N R) 31 true)
 have hb:=hset_at H0 n0 (.cells (acells a b N R) 31 true)
 repeat refine qqn rfl ?_
 (refine qqr ?_;simp only[SS,qx2,vun,simprocAttr,abox,abox_cells,abox_one,ff_20])
 repeat refine qqn rfl ?_
 generalize hset H0 n0 (.cells (acells a b N R) 31 true)=H1 at *
 have hi0:((0:Int)≤(N.length:Int))=True:=by simp
 have hib:((N.length:Int)≤(bigN:Int))=True:=by simp only[eq_iff_iff,iff_true];unfold bigN;omega
 have hle:((N.length:Int)≤(N.length:Int))=True:=by simp
 have hz0:[Value.int .i64 (Int.ofNat 0)]=[Value.int .i64 0]:=rfl
 repeat (first|refine qqm rfl ?_|((first|refine qqr ?_|refine qqt ?_);simp only[SS,qx2,vun,simprocAttr,hb,ac_0,ac_1,hi0,hib,hle,hz0,rep_ints,Int.toNat_natCast,ff_20]))
 have hk2:=hk.trans (Kp.new (n0+1) H1 (.cells ((List.replicate N.length (0:Int)).map (Value.int .i64)) 3 true))
 have hb2:hset H1 (n0+1) (.cells ((List.replicate N.length (0:Int)).map (Value.int .i64)) 3 true) n0=_:=(hset_ne _ _ _ (by omega)).trans hb
 have hx2:=hset_at H1 (n0+1) (.cells ((List.replicate N.length (0:Int)).map (Value.int .i64)) 3 true)
 generalize hset H1 (n0+1) (.cells ((List.replicate N.length (0:Int)).map (Value.int .i64)) 3 true)=H2 at *
 refine WK.loop (fun kk s=>∃(kx c:Nat) (K:List Int),Kp n0 H0 s.n s.H∧s.H n0=.cells (acells a b N R) 31 true∧n0<kx∧kx<s.n∧s.H kx=.cells (K.map (Value.int .i64)) 3 true∧Mini.Rnd N R w K c∧(∀q,q<N.length→Mini.at1 K q<N.length)∧c≤N.length ∧
  s.f 1=.pointer (some ⟨n0,0,none⟩)∧s.f 3=.slice (some ⟨kx,0,none⟩) N.length N.length∧s.f 4=.int .i64 (c:Int)∧kk=N.length - c) N.length ?_ ?_
 ·refine⟨n0+1,0,List.replicate N.length 0,hk2,hb2,by omega,by simp,hx2,Mini.first_rnd,fun q hq=>?_,Nat.zero_le _,rfl,rfl,rfl,rfl⟩
  have:=ok.pos
  simp[Mini.at1,List.getD,hq];omega
 clear hk2 hb2 hx2 hb hk H2 H1
 rintro kk ⟨f,n1,H1⟩ ⟨kx,c,K,kp,hb,hkx1,hkx2,hkx,rnd,hK,hc,f1,f3,f4,rfl⟩ ih
 simp only at kp hb hkx1 hkx2 hkx f1 f3 f4 ih
 have hKl:K.length=N.length:=rnd.len
 have hq1:∀(H':Heap) ob,hset H' n1 ob n0=H' n0:=fun H' ob=>hset_ne _ _ _ (by omega)
 have hq2:∀(H':Heap) ob,hset H' (n1+1) ob n0=H' n0:=fun H' ob=>hset_ne _ _ _ (by omega)
 have hpos:=ok.pos
 obtain⟨x,k,cs,ty,own,rfl,hx0,hr0⟩:=hN0.base (by intro e;rw[e]at hpos;exact absurd hpos (by simp))
 repeat (first|refine qqm rfl ?_|((first|refine qqr ?_|refine qqt ?_);simp only[SS,qx2,vun,simprocAttr,f1,f3,f4,hb,hq1,hq2,ac_0,ac_1,hi0,hib,hle,hz0,rep_ints,Int.toNat_natCast,ff_20]))
 have kp2:=(Kp.new n1 H1 (.map [] 0 9)).trans (Kp.new (n1+1) (hset H1 n1 (.map [] 0 9)) (.cells ((List.replicate N.length (0:Int)).map (Value.int .i64)) 3 true))
 have hm2:hset (hset H1 n1 (.map [] 0 9)) (n1+1) (.cells ((List.replicate N.length (0:Int)).map (Value.int .i64)) 3 true) n1=.map [] 0 9:=(hset_ne _ _ _ (by omega)).trans (hset_at _ _ _)
 have hx2:=hset_at (hset H1 n1 (.map [] 0 9)) (n1+1) (.cells ((List.replicate N.length (0:Int)).map (Value.int .i64)) 3 true)
 generalize hset (hset H1 n1 (.map [] 0 9)) (n1+1) (.cells ((List.replicate N.length (0:Int)).map (Value.int .i64)) 3 true)=H2 at *
 have hw1:=kp.wf hw0
 refine WK.loop (fun kk s=>∃(i:Nat) (X:List Int),i≤N.length∧Kp n1 H1 s.n s.H∧n1+2≤s.n∧s.H n1=.map (gE encS (Mini.known (Mini.key N R K) i) 0) (Mini.known (Mini.key N R K) i).length 9∧s.H (n1+1)=.cells (X.map (Value.int .i64)) 3 true∧X.length=N.length ∧
  (∀q,q<i→Mini.at1 X q=((Mini.num (Mini.key N R K) N.length q:Nat):Int))∧s.f 1=.pointer (some ⟨n0,0,none⟩)∧s.f 3=.slice (some ⟨kx,0,none⟩) N.length N.length∧s.f 4=.int .i64 (c:Int)∧s.f 5=.map (some n1)∧s.f 6=.slice (some ⟨n1+1,0,none⟩) N.length N.length ∧
  s.f 24=.slice (some ⟨x,k,none⟩) N.length N.length∧s.f 25=.int .i64 (N.length:Int)∧s.f 26=.int .i64 (i:Int)∧kk=N.length - i) N.length ?_ ?_
 ·exact⟨0,List.replicate N.length 0,Nat.zero_le _,kp2,Nat.le_refl _,hm2,hx2,by simp,fun q hq=>absurd hq (Nat.not_lt_zero _),f1,f3,f4,rfl,rfl,rfl,rfl,rfl,rfl⟩
 clear hm2 hx2 kp2 H2
 rintro kk ⟨f,n2,H2⟩ ⟨i,X,hi,kp2,hn2,hm,hX,hXl,hnum,f1,f3,f4,f5,f6,f24,f25,f26,rfl⟩ ih2
 simp only at kp2 hn2 hm hX f1 f3 f4 f5 f6 f24 f25 f26 ih ih2
 have kpA:=kp.trans kp2
 have hb2:H2 n0=.cells (acells (some ⟨x,k,none⟩) b N R) 31 true:=(kp2.keep n0 (by omega)).trans hb
 have hkx3:H2 kx=.cells (K.map (Value.int .i64)) 3 true:=(kp2.keep kx hkx2).trans hkx
 have hw2:=kpA.wf hw0
 by_cases hil:i<N.length
 ·have hil':((i:Int)<(N.length:Int))=True:=by simp only[eq_iff_iff,iff_true];omega
  have h0n:(0:Int)≤(i:Int):=Int.natCast_nonneg i
  obtain⟨p,ci,hp⟩:=hr0 i hil
  have hx2:H2 x=.cells cs ty own:=(kpA.keep x (live_lt0 hw0 (by rw[hx0];intro e;cases e))).trans hx0
  have hR2:=hR0.mono hw0 kpA
  have hil2:i<R.length:=by have:=ok.len;omega
  obtain⟨y,l,ds,ty2,own2,rfl,hy,ei⟩:=hR2.at hil2
  have hri:Mini.at1 R i=R[i]:=Mini.at1_at hil2
  have hilr:((i:Int)<(R.length:Int))=True:=by simp only[eq_iff_iff,iff_true];omega
  have hki:=ints_at (K:=K) (i:=i) (by omega)
  have k0:=rnd.nn i hil
  have k1:=hK i hil
  have hbo:B0 (hset H2 n2 (.cells [.pointer none,.slice none 0 0] 87 true)) n2:=hset_at _ _ _
  have kp3:=Kp.new n2 H2 (.cells [.pointer none,.slice none 0 0] 87 true)
  have hx3:=(hset_ne H2 n2 (.cells [.pointer none,.slice none 0 0] 87 true) (x:=x) (by have:=live_lt0 hw2 (z:=x) (by rw[hx2];intro e;cases e);omega)).trans hx2
  repeat refine qqn rfl ?_
  (refine qqr ?_;simp only[SS,qx2,vun,simprocAttr,f24,f25,f26,hil',ff_20])
  repeat refine qqn rfl ?_
  refine qqm rfl ?_
  repeat refine qqn rfl ?_
  (refine qqr ?_;simp only[SS,qx2,vun,simprocAttr,f24,f26,h0n,hil',hil,hx2,ci,Int.toNat_natCast,ff_20])
  repeat refine qqn rfl ?_
  (refine qqr ?_;simp only[SS,qx2,vun,simprocAttr,ff_20])
  repeat refine qqn rfl ?_
  generalize hset H2 n2 (.cells [.pointer none,.slice none 0 0] 87 true)=H3 at *
  have hw3:=kp3.wf hw2
  have kpB:=kpA.trans kp3
  have hb3:H3 n0=.cells (acells (some ⟨x,k,none⟩) (some ⟨y,l,none⟩) N R) 31 true:=(kp3.keep n0 (by have:=kp2.le;omega)).trans hb2
  have hkx4:H3 kx=.cells (K.map (Value.int .i64)) 3 true:=(kp3.keep kx (by have:=kp2.le;omega)).trans hkx3
  have hy3:H3 y=.cells ds ty2 own2:=(kp3.keep y (live_lt0 hw2 (by rw[hy];intro e;cases e))).trans hy
  have kz1 : -1≤Mini.at1 K i:=by omega
  have kz2:Mini.at1 K i≤9223372036854775807:=by omega
  have rz1:=ok.rule i hil
  have rz2:Mini.at1 R i≤9223372036854775807:=by rw[hri];exact(ws.rule _ (List.getElem_mem hil2)).2
  rw[←hri]at ei
  (refine WK.rgs [true,true,true,true,true,true,true,true,true,true,true,true,true,false] (by kernel_rfl) (by kernel_rfl) ?_;simp only[wz,SS,forall_const,wx,tguard,acallee,top,tval,fput,tor,vsh,vbin,vun,tload,tload2,tload3,tstore,tstore2,tstore3,Go.AM.splice,one,tidx,tidx2,tidx3,tfa,tfa2,tlen2,tlen3,textr,tbox,talloc,still,still1,flat1,tmake,simprocAttr,f3,hil',hil,h0n,hkx4,hki,Int.toNat_natCast,Nat.zero_add,ff_20])
  have ht3:=ht0.kp hw0 kpB
  refine AtCall.by (itoa_gives (Mini.at1 K i) kz1 (by omega) ht3) ?_
  rintro v n4 H4 k4 rfl
  have hw4:=k4.wf hw3
  have ht4:=ht3.kp hw3 k4
  have hle4:=k4.le
  have hle2:=kp2.le
  have hb4:=(k4.keep n0 (by omega)).trans hb3
  have hy4:=(k4.keep y (live_lt0 hw3 (by rw[hy3];intro e;cases e))).trans hy3
  have hbo4:B0 H4 n2:=(k4.keep n2 (by omega)).trans hbo
  have hd1:=dI_len _ (show -9223372036854775808≤Mini.at1 K i by omega) kz2
  have hd2:=dI_len _ (show -9223372036854775808≤Mini.at1 R i by omega) rz2
  have s1:=cat_ok (a:=dI (Mini.at1 K i)) (b:=[32]) (by simp;omega)
  have s2:=cat_ok (a:=dI (Mini.at1 K i)++[32]) (b:=dI (Mini.at1 R i)) (by simp;omega)
  simp only[SS,qx2,vun,simprocAttr,wz,f1,f3,bsp,s1,ba_app,hb4,ac_1,hilr,hil2,h0n,hy4,ei,Int.toNat_natCast,ff_20]
  refine AtCall.by (itoa_gives (Mini.at1 R i) rz1 (by rw[hri];exact hRs _ (List.getElem_mem hil2)) ht4) ?_
  rintro v n5 H5 k5 rfl
  have hw5:=k5.wf hw4
  have hle5:=k5.le
  have hbo5:B0 H5 n2:=(k5.keep n2 (by omega)).trans hbo4
  simp only[SS,qx2,vun,simprocAttr,wz,bsp,s1,s2,ba_app,Int.toNat_natCast,ff_20]
  rw[List.append_assoc]
  refine AtCall.byX (write_gives (l:=[]) (y:=0) (s:=dI (Mini.at1 K i)++([32]++dI (Mini.at1 R i))) hw5 (by simp;omega) (by simp;omega) (.inl ⟨rfl,hbo5⟩)) ?_
  rintro v n6 H6 k6 ⟨y6,hy6,hBs,hc6⟩
  simp only[List.nil_append]at hBs hc6
  have hL0:dI (Mini.at1 K i)++([32]++dI (Mini.at1 R i))=dL (Mini.at1 K i::Mini.at1 R i::(([]:List Int).map (Mini.tgt K))):=by simp[dL]
  rw[hL0]at hBs hc6
  have hle6:=k6.le
  have kp6:Kp n2 H2 n6 H6:=(((kp3.trans k4).trans k5).kx (X:=fun z=>z=n2)).trans (k6.mono fun z hz h=>by rcases h with h|h;exact h;exact absurd rfl h.1) |>.kp fun z hz e=>by omega
  simp only[SS,qx2,vun,simprocAttr,wz,ff_20]
  repeat refine qqn rfl ?_
  have hpos6:=hBs.pos
  have wi:=ws.row _ (List.getElem_mem hil)
  have hLw:N[i].length=w:=by have:=ok.row i hil;rwa [Mini.getD_at [] hil]at this
  have hto:∀t (h:t<N[i].length),-1≤N[i][t]∧N[i][t]<N.length:=fun t h=>by
   rw[←Mini.at2_at hil h]
   exact⟨ok.lo i hil t (by omega),ok.hi i hil t (by omega)⟩
  have hrow:N.getD i []=N[i]:=Mini.getD_at [] hil
  have hkey:Mini.key N R K i=Mini.at1 K i::Mini.at1 R i::N[i].map (Mini.tgt K):=by unfold Mini.key;rw[hrow]
  generalize N[i]=L at *
  have hLm:=wi.1
  have dll:∀m:List Int,(∀z,z∈m→(dI z).length≤20)→(m.flatMap fun x=>32::dI x).length≤21*m.length:=fun m=>by
   induction m with
   | nil=>intro _;simp
   | cons z m ihm=>intro h;have h1:=h z (List.mem_cons_self ..);have h2:=ihm fun q hq=>h q (List.mem_cons_of_mem _ hq);simp only[List.flatMap_cons,List.length_append,List.length_cons];omega
  have tgl:∀X:Int,-1≤X→X<N.length → -1≤Mini.tgt K X∧Mini.tgt K X<100:=fun X h1 h2=>by
   unfold Mini.tgt
   split
   ·have:=rnd.nn X.toNat (by omega);have:=hK X.toNat (by omega);omega
   ·omega
  have dlen:∀j,j≤L.length→(dL (Mini.at1 K i::Mini.at1 R i::((L.take j).map (Mini.tgt K)))).length≤40000:=fun j hj=>by
   have h1:=dll (Mini.at1 R i::((L.take j).map (Mini.tgt K))) fun z hz=>by
    rcases List.mem_cons.1 hz with rfl|hz
    ·omega
    ·obtain⟨X,hX,rfl⟩:=List.mem_map.1 hz
     obtain⟨t,ht,rfl⟩:=List.getElem_of_mem (List.mem_of_mem_take hX)
     obtain⟨g1,g2⟩:=hto t ht
     obtain⟨g3,g4⟩:=tgl _ g1 g2
     exact dI_len _ (by omega) (by omega)
   simp only[dL,List.length_append]
   simp only[List.length_cons,List.length_map,List.length_take]at h1
   have:min j L.length≤1000:=by omega
   omega
  (refine qqr ?_;simp only[SS,qx2,vun,simprocAttr,ff_20])
  repeat refine qqn rfl ?_
  have hRp6:RA (Value.int .i64) H6 p L:=hp.mono hw0 (kpA.trans kp6)
  have hkx6:H6 kx=.cells (K.map (Value.int .i64)) 3 true:=(kp6.keep kx (by omega)).trans hkx3
  refine WK.loop (fun kk s=>∃(j yb:Nat),j≤L.length∧n2≤yb∧Kp n2 H2 s.n s.H∧n2<s.n∧Bs s.H n2 yb (dL (Mini.at1 K i::Mini.at1 R i::((L.take j).map (Mini.tgt K))))∧s.H yb=.cells ((dL (Mini.at1 K i::Mini.at1 R i::((L.take j).map (Mini.tgt K)))).map bv8) 5 true ∧
   s.f 1=.pointer (some ⟨n0,0,none⟩)∧s.f 3=.slice (some ⟨kx,0,none⟩) N.length N.length∧s.f 4=.int .i64 (c:Int)∧s.f 5=.map (some n1)∧s.f 6=.slice (some ⟨n1+1,0,none⟩) N.length N.length∧s.f 7=.int .i64 (i:Int)∧s.f 9=.pointer (some ⟨n2,0,none⟩) ∧
   s.f 24=.slice (some ⟨x,k,none⟩) N.length N.length∧s.f 25=.int .i64 (N.length:Int)∧s.f 26=.int .i64 (i:Int)∧s.f 45=.slice p L.length L.length∧s.f 46=.int .i64 (L.length:Int)∧s.f 47=.int .i64 (j:Int)∧kk=L.length - j) L.length ?_ ?_
  ·exact⟨0,y6,Nat.zero_le _,by omega,kp6,(show n2<n6 by omega),hBs,hc6,f1,f3,f4,f5,f6,rfl,rfl,f24,f25,f26,rfl,rfl,rfl,rfl⟩
  rintro kk ⟨f,n7,H7⟩ ⟨j,yb,hj,hyb2,kp7,hn7,hBs7,hc7,f1,f3,f4,f5,f6,f7,f9,f24,f25,f26,f45,f46,f47,rfl⟩ ih3
  simp only at kp7 hn7 hBs7 hc7 f1 f3 f4 f5 f6 f7 f9 f24 f25 f26 f45 f46 f47 ih ih2 ih3
  have hw7:=kp7.wf hw2
  have ht7:=(ht0.kp hw0 kpA).kp hw2 kp7
  have hkx7:H7 kx=.cells (K.map (Value.int .i64)) 3 true:=(kp7.keep kx (by omega)).trans hkx3
  by_cases hjl:j<L.length
  ·have hjl':((j:Int)<(L.length:Int))=True:=by simp only[eq_iff_iff,iff_true];omega
   have h0j:(0:Int)≤(j:Int):=Int.natCast_nonneg j
   have hRp7:RA (Value.int .i64) H7 p L:=hp.mono hw0 (kpA.trans kp7)
   obtain⟨z,m,es,ty3,own3,rfl,hz,ej⟩:=hRp7.at hjl
   obtain⟨x1,x2⟩:=hto j hjl
   have hlen7:=dlen j hj
   generalize hX0:L[j]=X at *
   by_cases c1:0≤X
   ·have hxl:X.toNat<N.length:=by omega
    have hkt:=ints_at (K:=K) (i:=X.toNat) (by omega)
    have htg:Mini.at1 K X.toNat=Mini.tgt K X:=by unfold Mini.tgt;rw[if_pos c1]
    rw[htg]at hkt
    repeat (first|refine qqm rfl ?_|((first|refine qqr ?_|refine qqt ?_);simp only[SS,qx2,vun,simprocAttr,f1,f3,f4,f5,f6,f7,f9,f45,f46,f47,hjl',hjl,h0j,hz,ej,c1,x2,hkx7,hkt,Int.toNat_natCast,Nat.zero_add,ff_20]))
    have ty1 : -1≤Mini.tgt K X:=(tgl X x1 x2).1
    have ty3:=(tgl X x1 x2).2
    have ty2:Mini.tgt K X≤9223372036854775807:=by omega
    have hd3:=dI_len _ (show -9223372036854775808≤Mini.tgt K X by omega) ty2
    have s3:=cat_ok (a:=[32]) (b:=dI (Mini.tgt K X)) (by simp;omega)
    refine AtCall.by (itoa_gives (Mini.tgt K X) ty1 ty3 ht7) ?_
    rintro v n8 H8 k8 rfl
    have hle8:=k8.le
    have hyb:=live_lt0 hw7 (z:=yb) (by rw[hc7];intro e;cases e)
    have hBs8:Bs H8 n2 yb (dL (Mini.at1 K i::Mini.at1 R i::((L.take j).map (Mini.tgt K)))):=⟨(k8.keep n2 (by omega)).trans hBs7.ho,hBs7.ne,.inl ((k8.keep yb hyb).trans hc7),hBs7.pos,hBs7.big⟩
    simp only[SS,qx2,vun,simprocAttr,f9,bsp,s3,ba_app,ff_20]
    refine AtCall.byX (write_gives (y:=yb) (s:=[32]++dI (Mini.tgt K X)) (k8.wf hw7) (by simp) (by have h:=hlen7;rw[List.length_append,List.length_singleton];omega) (.inr ⟨hBs8,(k8.keep yb hyb).trans hc7⟩)) ?_
    rintro v n9 H9 k9 ⟨y9,hy9,hBs9,hc9⟩
    have htk:L.take (j+1)=L.take j++[X]:=by rw[List.take_succ_eq_append_getElem hjl,hX0]
    have hL9:dL (Mini.at1 K i::Mini.at1 R i::((L.take j).map (Mini.tgt K)))++([32]++dI (Mini.tgt K X))=dL (Mini.at1 K i::Mini.at1 R i::((L.take (j+1)).map (Mini.tgt K))):=by rw[htk];simp[dL]
    rw[hL9]at hBs9 hc9
    have hle9:=k9.le
    simp only[SS,qx2,vun,simprocAttr,ff_20]
    repeat (first|refine qqm rfl ?_|((first|refine qqr ?_|refine qqt ?_);simp only[SS,qx2,vun,simprocAttr,f47,ff_20]))
    refine ih3 (L.length - (j+1)) (by omega) _ ⟨j+1,y9,hjl,by omega,?_,(show n2<n9 by omega),hBs9,hc9,f1,f3,f4,f5,f6,f7,f9,f24,f25,f26,f45,f46,?_,rfl⟩
    ·exact kp7.kx.trans ((k8.kx (X:=fun z=>n2≤z)).trans (k9.mono fun z hz h=>by rcases h with h|h;exact Nat.le_of_eq h.symm;rw[h.2];exact hyb2)) |>.kp fun z hz e=>by omega
    ·simp only[packed,qv,Nat.reduceEqDiff,↓reduceIte,wrap_up hjl hLm,ff_20]
   ·have htg:Mini.tgt K X = -1:=by unfold Mini.tgt;rw[if_neg c1]
    repeat (first|refine qqm rfl ?_|((first|refine qqr ?_|refine qqt ?_);simp only[SS,qx2,vun,simprocAttr,f1,f3,f4,f5,f6,f7,f9,f45,f46,f47,hjl',hjl,h0j,hz,ej,c1,Int.toNat_natCast,Nat.zero_add,ff_20]))
    have ty1 : -1≤(-1):=by omega
    have ty2:(-1)≤9223372036854775807:=by omega
    have hd3:=dI_len _ (show -9223372036854775808≤(-1) by omega) ty2
    have s3:=cat_ok (a:=[32]) (b:=dI ((-1))) (by simp;omega)
    refine AtCall.by (itoa_gives ((-1)) ty1 (by omega) ht7) ?_
    rintro v n8 H8 k8 rfl
    have hle8:=k8.le
    have hyb:=live_lt0 hw7 (z:=yb) (by rw[hc7];intro e;cases e)
    have hBs8:Bs H8 n2 yb (dL (Mini.at1 K i::Mini.at1 R i::((L.take j).map (Mini.tgt K)))):=⟨(k8.keep n2 (by omega)).trans hBs7.ho,hBs7.ne,.inl ((k8.keep yb hyb).trans hc7),hBs7.pos,hBs7.big⟩
    simp only[SS,qx2,vun,simprocAttr,f9,bsp,s3,ba_app,ff_20]
    refine AtCall.byX (write_gives (y:=yb) (s:=[32]++dI ((-1))) (k8.wf hw7) (by simp) (by have h:=hlen7;rw[List.length_append,List.length_singleton];omega) (.inr ⟨hBs8,(k8.keep yb hyb).trans hc7⟩)) ?_
    rintro v n9 H9 k9 ⟨y9,hy9,hBs9,hc9⟩
    have htk:L.take (j+1)=L.take j++[X]:=by rw[List.take_succ_eq_append_getElem hjl,hX0]
    have hL9:dL (Mini.at1 K i::Mini.at1 R i::((L.take j).map (Mini.tgt K)))++([32]++dI ((-1)))=dL (Mini.at1 K i::Mini.at1 R i::((L.take (j+1)).map (Mini.tgt K))):=by rw[htk];simp[dL,htg]
    rw[hL9]at hBs9 hc9
    have hle9:=k9.le
    simp only[SS,qx2,vun,simprocAttr,ff_20]
    repeat (first|refine qqm rfl ?_|((first|refine qqr ?_|refine qqt ?_);simp only[SS,qx2,vun,simprocAttr,f47,ff_20]))
    refine ih3 (L.length - (j+1)) (by omega) _ ⟨j+1,y9,hjl,by omega,?_,(show n2<n9 by omega),hBs9,hc9,f1,f3,f4,f5,f6,f7,f9,f24,f25,f26,f45,f46,?_,rfl⟩
    ·exact kp7.kx.trans ((k8.kx (X:=fun z=>n2≤z)).trans (k9.mono fun z hz h=>by rcases h with h|h;exact Nat.le_of_eq h.symm;rw[h.2];exact hyb2)) |>.kp fun z hz e=>by omega
    ·simp only[packed,qv,Nat.reduceEqDiff,↓reduceIte,wrap_up hjl hLm,ff_20]
  ·have hjl':((j:Int)<(L.length:Int))=False:=by simp only[eq_iff_iff,iff_false];omega
   have hje:j=L.length:=by omega
   subst hje
   rw[List.take_length,←hkey]at hBs7 hc7
   have gd:=key_good ok rnd hK hN hwl ws hil
   have gds:=known_good ok rnd hK hN hwl ws hi
   have gk:=gkS und_str
   have hm7:H7 n1=.map (gE encS (Mini.known (Mini.key N R K) i) 0) (Mini.known (Mini.key N R K) i).length 9:=(kp7.keep n1 (by omega)).trans hm
   have hX7:H7 (n1+1)=.cells (X.map (Value.int .i64)) 3 true:=(kp7.keep (n1+1) (by omega)).trans hX
   repeat (first|refine qqm rfl ?_|((first|refine qqr ?_|refine qqt ?_);simp only[SS,qx2,vun,simprocAttr,f5,f6,f7,f9,f45,f46,f47,hjl',Int.toNat_natCast,ff_20]))
   refine AtCall.byX (string_gives hw7 hBs7) ?_
   rintro v n8 H8 k8 ⟨rfl,rfl,hBs8⟩
   have hm8:=(k8.keep n1 (by omega) (by omega)).trans hm7
   have hX8:=(k8.keep (n1+1) (by omega) (by omega)).trans hX7
   have hw8:=k8.wf hw7
   have hXi:i<(X.map (Value.int .i64)).length:=by rw[List.length_map];omega
   have hXi2:i+1≤(X.map (Value.int .i64)).length:=hXi
   have gds2:=known_good ok rnd hK hN hwl ws (i:=i+1) hil
   have hin2:Mini.key N R K i∈Mini.known (Mini.key N R K) (i+1):=(Mini.mem_known _ _ _).2 ⟨i,by omega,rfl⟩
   have hna:=Mini.num_at (Mini.key N R K) (Nat.lt_succ_self i) hil
   by_cases hmem:Mini.key N R K i∈Mini.known (Mini.key N R K) i
   ·have hkn:Mini.known (Mini.key N R K) (i+1)=Mini.known (Mini.key N R K) i:=known_yes _ _ hmem
    rw[←hkn]at hm8
    have hl1:=gk.look_yes gd gds2 hin2 und_ms hm8 true
    rw[←hna]at hl1
    simp only[encS,if_true]at hl1
    simp only[SS,qx2,vun,simprocAttr,f5,f7,f9,aop_look,hl1,ff_20]
    repeat (first|refine qqm rfl ?_|((first|refine qqr ?_|refine qqt ?_);simp only[SS,qx2,vun,simprocAttr,f5,f6,f7,f9,ff_20]))
    refine AtCall.byX (string_gives hw8 hBs8) ?_
    rintro v n9 H9 k9 ⟨rfl,rfl,hBs9⟩
    have hm9:=(k9.keep n1 (by omega) (by omega)).trans hm8
    have hX9:=(k9.keep (n1+1) (by omega) (by omega)).trans hX8
    have hl2:=gk.look_yes gd gds2 hin2 und_ms hm9 false
    rw[←hna]at hl2
    simp only[encS,Bool.false_eq_true,if_false]at hl2
    simp only[SS,qx2,vun,simprocAttr,f5,f6,f7,f9,aop_look,hl2,hil',hil,h0n,hX9,hXi,hXi2,Int.toNat_natCast,Nat.zero_add,ff_20]
    repeat (first|refine qqm rfl ?_|((first|refine qqr ?_|refine qqt ?_);simp only[SS,qx2,vun,simprocAttr,f26,ff_20]))
    have kpE:Kp n1 H1 n9 H9:=kp2.kx.trans (kp7.kx.trans ((k8.mono (Y:=fun z=>n1+2≤z) fun z _ e=>by omega).trans (k9.mono fun z _ e=>by omega))) |>.kp fun z hz e=>by omega
    refine ih2 (N.length - (i+1)) (by omega) _ ?_
    refine⟨i+1,X.set i ((Mini.num (Mini.key N R K) N.length i:Nat):Int),hil,kpE.set _ (by omega) (by omega),by show n1+2≤n9;omega,?_,?_,by simpa using hXl,fun q hq=>?_,f1,f3,f4,f5,f6,f24,f25,?_,rfl⟩
    ·exact(hset_ne _ _ _ (by omega)).trans hm9
    ·show hset H9 (n1+1) _ (n1+1)=_
     rw[hset_at,List.map_set]
    ·by_cases e:q=i
     ·subst e
      unfold Mini.at1
      rw[List.getD_eq_getElem?_getD,List.getElem?_set_self (by omega)];rfl
     ·rw[←hnum q (by omega)]
      unfold Mini.at1
      rw[List.getD_eq_getElem?_getD,List.getElem?_set_ne (fun h=>e h.symm),←List.getD_eq_getElem?_getD]
    ·simp only[packed,qv,Nat.reduceEqDiff,↓reduceIte,wrap_up hil ws.n,ff_20]
   ·have hl1:=gk.look_no gd gds hmem und_ms zero_int hm8 true
    simp only[encS,if_true]at hl1
    have hkn:Mini.known (Mini.key N R K) (i+1)=Mini.known (Mini.key N R K) i++[Mini.key N R K i]:=known_no _ _ hmem
    simp only[SS,qx2,vun,simprocAttr,f5,f7,f9,aop_look,hl1,ff_20]
    repeat (first|refine qqm rfl ?_|((first|refine qqr ?_|refine qqt ?_);simp only[SS,qx2,vun,simprocAttr,f5,f6,f7,f9,ff_20]))
    refine AtCall.byX (string_gives hw8 hBs8) ?_
    rintro v n9 H9 k9 ⟨rfl,rfl,hBs9⟩
    have hw9:=k9.wf hw8
    have hm9:=(k9.keep n1 (by omega) (by omega)).trans hm8
    have hX9:=(k9.keep (n1+1) (by omega) (by omega)).trans hX8
    have hpt:=gk.put gd gds hmem und_ms hm9
    rw[←hkn]at hpt
    simp only[encS]at hpt
    simp only[SS,qx2,vun,simprocAttr,f5,f9,hm9,gE_len,aop_mapset,hpt,ff_20]
    repeat (first|refine qqm rfl ?_|((first|refine qqr ?_|refine qqt ?_);simp only[SS,qx2,vun,simprocAttr,f5,f6,f7,f9,ff_20]))
    have kpM:Kp n1 H1 n9 H9:=kp2.kx.trans (kp7.kx.trans ((k8.mono (Y:=fun z=>n1+2≤z) fun z _ e=>by omega).trans (k9.mono fun z _ e=>by omega))) |>.kp fun z hz e=>by omega
    have kpM2:=kpM.set (x:=n1) (.map (gE encS (Mini.known (Mini.key N R K) (i+1)) 0) (Mini.known (Mini.key N R K) (i+1)).length 9) (Nat.le_refl _) (by omega)
    have hwM:=kpM2.wf hw1
    have hmM:=hset_at H9 n1 (.map (gE encS (Mini.known (Mini.key N R K) (i+1)) 0) (Mini.known (Mini.key N R K) (i+1)).length 9)
    have hXM:=(hset_ne H9 n1 (.map (gE encS (Mini.known (Mini.key N R K) (i+1)) 0) (Mini.known (Mini.key N R K) (i+1)).length 9) (x:=n1+1) (by omega)).trans hX9
    have hBsM:Bs (hset H9 n1 (.map (gE encS (Mini.known (Mini.key N R K) (i+1)) 0) (Mini.known (Mini.key N R K) (i+1)).length 9)) n2 yb (dL (Mini.key N R K i)):=by
     refine⟨?_,hBs9.ne,?_,hBs9.pos,hBs9.big⟩
     ·rw[hset_ne _ _ _ (by omega)];exact hBs9.ho
     ·rw[hset_ne _ _ _ (by omega)];exact hBs9.hy
    generalize hset H9 n1 (.map (gE encS (Mini.known (Mini.key N R K) (i+1)) 0) (Mini.known (Mini.key N R K) (i+1)).length 9)=HM at *
    refine AtCall.byX (string_gives hwM hBsM) ?_
    rintro v nA HA kA ⟨rfl,rfl,hBsA⟩
    have hmA:=(kA.keep n1 (by omega) (by omega)).trans hmM
    have hXA:=(kA.keep (n1+1) (by omega) (by omega)).trans hXM
    have hl2:=gk.look_yes gd gds2 hin2 und_ms hmA false
    rw[←hna]at hl2
    simp only[encS,Bool.false_eq_true,if_false]at hl2
    simp only[SS,qx2,vun,simprocAttr,f5,f6,f7,f9,aop_look,hl2,hil',hil,h0n,hXA,hXi,hXi2,Int.toNat_natCast,Nat.zero_add,ff_20]
    repeat (first|refine qqm rfl ?_|((first|refine qqr ?_|refine qqt ?_);simp only[SS,qx2,vun,simprocAttr,f26,ff_20]))
    have kpE:Kp n1 H1 nA HA:=kpM2.kx.trans (kA.mono (Y:=fun z=>n1+2≤z) fun z _ e=>by omega) |>.kp fun z hz e=>by omega
    refine ih2 (N.length - (i+1)) (by omega) _ ?_
    refine⟨i+1,X.set i ((Mini.num (Mini.key N R K) N.length i:Nat):Int),hil,kpE.set _ (by omega) (by omega),by show n1+2≤nA;omega,?_,?_,by simpa using hXl,fun q hq=>?_,f1,f3,f4,f5,f6,f24,f25,?_,rfl⟩
    ·exact(hset_ne _ _ _ (by omega)).trans hmA
    ·show hset HA (n1+1) _ (n1+1)=_
     rw[hset_at,List.map_set]
    ·by_cases e:q=i
     ·subst e
      unfold Mini.at1
      rw[List.getD_eq_getElem?_getD,List.getElem?_set_self (by omega)];rfl
     ·rw[←hnum q (by omega)]
      unfold Mini.at1
      rw[List.getD_eq_getElem?_getD,List.getElem?_set_ne (fun h=>e h.symm),←List.getD_eq_getElem?_getD]
    ·simp only[packed,qv,Nat.reduceEqDiff,↓reduceIte,wrap_up hil ws.n,ff_20]
 ·have hil':((i:Int)<(N.length:Int))=False:=by simp only[eq_iff_iff,iff_false];omega
  have hie:i=N.length:=by omega
  subst hie
  have hXn:X=Mini.next N R K:=by
   apply List.ext_getElem
   ·rw[hXl,Mini.next_len]
   ·intro q h1 h2
    have:=hnum q (by omega)
    rw[Mini.at1_at h1]at this
    rw[this,←Mini.at1_next (K:=K) (by omega),Mini.at1_at h2]
  have hcn:(Mini.known (Mini.key N R K) N.length).length=Mini.cnt N R K:=rfl
  have hXb:∀q,q<N.length→0≤Mini.at1 X q∧Mini.at1 X q<N.length:=fun q hq=>by
   rw[hnum q hq]
   have h1:=Mini.num_lt (Mini.key N R K) hq
   have h2:=Mini.known_len (Mini.key N R K) N.length
   omega
  by_cases hcc:Mini.cnt N R K=c
  ·have hcc':(((Mini.cnt N R K:Nat):Int)=(c:Int))=True:=by simp only[eq_iff_iff,iff_true];omega
   repeat (first|refine qqm rfl ?_|((first|refine qqr ?_|refine qqt ?_);simp only[SS,qx2,vun,simprocAttr,f4,f5,f6,f25,f26,hil',hm,gE_len,hcn,hcc',ff_20]))
   first|refine qqf ?_ ?_|refine qqg ?_ ?_
   ·exact fun z hz=>kpA.keep z hz
   ·simp only[packed,qv,Nat.reduceEqDiff,↓reduceIte,ff_20]
    refine⟨n1+1,X,by rw[hXl],by omega,hX,hXl,hXb,fun s u hs hu=>?_⟩
    rw[hXn]
    exact Mini.last_rnd ok (by rw[hcc];exact rnd) hs hu
  ·have hcc':(((Mini.cnt N R K:Nat):Int)=(c:Int))=False:=by simp only[eq_iff_iff,iff_false];omega
   repeat (first|refine qqm rfl ?_|((first|refine qqr ?_|refine qqt ?_);simp only[SS,qx2,vun,simprocAttr,f4,f5,f6,f25,f26,hil',hm,gE_len,hcn,hcc',ff_20]))
   have hge:=Mini.cnt_ge rnd
   have hle9:=Mini.cnt_le N R K
   refine ih (N.length - Mini.cnt N R K) (by omega) _ ?_
   exact⟨n1+1,Mini.cnt N R K,X,kpA,hb2,by omega,by show n1+1<n2;omega,hX,by rw[hXn];exact rnd.step ok,fun q hq=>(hXb q hq).2,hle9,f1,rfl,rfl,rfl⟩
end Go.Proofs.YtjlgpanihjnaeaaGreatDoor
