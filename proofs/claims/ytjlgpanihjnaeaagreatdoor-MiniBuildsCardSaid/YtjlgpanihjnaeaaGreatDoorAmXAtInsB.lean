/- A part of a proof. Its conditions: none. -/
import Derived.Test.YtjlgpanihjnaeaaGreatDoorChecked
import Derived.Test.YtjlgpanihjnaeaaGreatDoorAmC
import Derived.Shelf.Spec.SlicesInsert
import Derived.Test.YtjlgpanihjnaeaaGreatDoorAmE
import Derived.Test.YtjlgpanihjnaeaaGreatDoorAmXFacts
import Derived.Test.YtjlgpanihjnaeaaGreatDoorAmD
set_option linter.all false
namespace Go.Proofs.YtjlgpanihjnaeaaGreatDoor
open Go.AM Go.RowKit Go.Lib
theorem u_cfgs:Tryz.prog.underlying 53=some (.slice 82):=by kernel_rfl
theorem i_cfg:∃i,Tryz.prog.info? 82=some i∧i.size=4∧i.bytes≤4096:=by
 have h0:(Tryz.prog.info? 82).isSome=true:=by kernel_rfl
 obtain⟨i,hi⟩:=Option.isSome_iff_exists.1 h0
 have h1:(Tryz.prog.info? 82).map (·.size)=some 4:=by kernel_rfl
 have h2:((Tryz.prog.info? 82).map fun i=>decide (i.bytes≤4096))=some true:=by kernel_rfl
 rw[hi]at h1 h2
 exact⟨i,hi,by simpa using h1,by simpa using h2⟩
theorem z_cfg:∃i z,Tryz.prog.info? 82=some i∧i.size=4∧i.bytes≤4096∧i.zero=some z∧z.cells.size=4:=by
 obtain⟨i,hi,h1,h2⟩:=i_cfg
 have h3:((Tryz.prog.info? 82).bind (·.zero)).isSome=true:=by kernel_rfl
 have h4:((Tryz.prog.info? 82).bind (·.zero)).map (·.cells.size)=some 4:=by kernel_rfl
 rw[hi]at h3 h4
 obtain⟨z,hz⟩:=Option.isSome_iff_exists.1 h3
 rw[hz]at h4
 exact⟨i,z,hi,h1,h2,hz,by simpa using h4⟩
theorem run_setRow_heap(w:World)(g:Nat)(cur:Array Value)(e:TypeId)(l:Array Value)(h:w.heap[g]? = some (.cells cur e (0,0))):(w.setRow g l).heap[g]? = some (.cells l e (0,0)):=setRow_heap w g cur _ _ _ h
set_option maxHeartbeats 4000000 in
set_option maxRecDepth 100000 in
theorem ins_shift0(b o n c i vb vo vc:Nat)(w W1 W2:World)(v1 v2:Value)(hi:i<n)(hroom:n+1≤c)(hc63:c≤9223372036854775807)
  (hov:∀lb cb,(callFunc 82 #[.slice (some ⟨vb,vo,none⟩) 1 vc,.slice (some ⟨b,o+(i+1)*4,none⟩) lb cb]).run Tryz.prog w=.ok (.value (.bool false)) w)
  (hcp1:∀ty dc sc,(Builtin.copy_ #[53,53] ty #[.slice (some ⟨b,o+(i+1)*4,none⟩) (n - i) dc,.slice (some ⟨b,o+i*4,none⟩) (n+1 - i) sc]).run Tryz.prog w.drew=.ok v1 W1)
  (hcp2:∀ty dc,(Builtin.copy_ #[53,53] ty #[.slice (some ⟨b,o+i*4,none⟩) (n+1 - i) dc,.slice (some ⟨vb,vo,none⟩) 1 vc]).run Tryz.prog W1=.ok v2 W2) :
  Calls Tryz.prog 65 #[.slice (some ⟨b,o,none⟩) n c,.int .i64 i,.slice (some ⟨vb,vo,none⟩) 1 vc] w fun e w'=>e=.returned (.slice (some ⟨b,o,none⟩) (n+1) c)∧w'=W2:=by
 have hz2:¬((i:Int)=(n:Int)):=by omega
 have mixed:Tryz.prog.follows .mixedOrders=true:=by kernel_rfl
 have hw1:IntKind.i64.wrap ((i:Int)+1)=(i:Int)+1:=by rw[IntKind.wrap_i64];omega
 have hb1:(0:Int)≤(i:Int)+1:=by omega
 have htn:((i:Int)+1).toNat=i+1:=by omega
 have hb2:¬(c=i+1):=by omega
 have hb3:(i:Int)+1≤(n:Int)+1:=by omega
 have hb5:(i:Int)≤(n:Int)+1:=by omega
 have hb4:¬(c=i):=by omega
 go_enter Tryz.func65,Tryz.ntmps65
 go_wp2_with (simp only[hov])
 go_region_law_o (refine step_copy_runI rfl _ _ 53 53 rfl _ _ (by simp[Act.eval,Act.put]) (by simp[Act.eval,Act.put]) (hcp1 _ _ _) ?_)
 go_wp2_with (at_builtin;refine wpList_copy_runI _ rfl _ _ 53 53 rfl _ _ rfl rfl (hcp2 _ _) ?_)
 go_ret
 exact⟨rfl,rfl⟩
set_option maxHeartbeats 4000000 in
set_option maxRecDepth 100000 in
theorem ins_shift(b o n c i vb vo vc:Nat)(w:World)(ys zs:List Value)(cur:Array Value)(hi:i<n)(hroom:n+1≤c)(hc63:c≤9223372036854775807)
  (hcur:w.heap[b]? = some (.cells cur 82 (0,0))) (hfit:o+(n+1)*4≤cur.size)
  (hys:ys.length=n*4) (hzs:zs.length=4) (hyc:∀j v,ys[j]? = some v→w.cell? ⟨b,o+j,none⟩=some v) (hzc:∀j v,zs[j]? = some v→w.cell? ⟨vb,vo+j,none⟩=some v)
  (hy1:∀v∈ys,v.oneCell'=true) (hz1:∀v∈zs,v.oneCell'=true) (hvb:vb≠b)
  (hov:∀lb cb,(callFunc 82 #[.slice (some ⟨vb,vo,none⟩) 1 vc,.slice (some ⟨b,o+(i+1)*4,none⟩) lb cb]).run Tryz.prog w=.ok (.value (.bool false)) w) :
  Calls Tryz.prog 65 #[.slice (some ⟨b,o,none⟩) n c,.int .i64 i,.slice (some ⟨vb,vo,none⟩) 1 vc] w fun e w'=>e=.returned (.slice (some ⟨b,o,none⟩) (n+1) c) ∧
   ∃R1:Array Value,R1=(cur.toList.take (o+(i+1)*4)++ys.drop (i*4)++cur.toList.drop (o+(n+1)*4)).toArray ∧
    w'=(w.drew.setRow b R1).setRow b (R1.toList.take (o+i*4)++zs++R1.toList.drop (o+i*4+4)).toArray:=by
 have hz2:¬((i:Int)=(n:Int)):=by omega
 obtain⟨ti,hti,hsz,hby⟩:=i_cfg
 have hdl:(ys.drop (i*4)).length=(n - i)*4:=by rw[List.length_drop,hys];omega
 obtain⟨R1,hR1⟩:∃R1:Array Value,R1=(cur.toList.take (o+(i+1)*4)++ys.drop (i*4)++cur.toList.drop (o+(n+1)*4)).toArray:=⟨_,rfl⟩
 have hR1s:R1.size=cur.size:=by
  rw[hR1]
  have:=Array.length_toList (xs:=cur)
  simp only[List.size_toArray,List.length_append,List.length_take,List.length_drop,hys];omega
 have hcp1:∀ty dc sc,(Builtin.copy_ #[53,53] ty #[.slice (some ⟨b,o+(i+1)*4,none⟩) (n - i) dc,.slice (some ⟨b,o+i*4,none⟩) (n+1 - i) sc]).run Tryz.prog w.drew=.ok (goInt ((n - i:Nat):Int)) (w.drew.setRow b R1):=fun ty dc sc=>by
  have h:=run_copy_row' (P:=Tryz.prog) (w:=w.drew) (sT:=53) (ty:=ty) (dLen:=n - i) (dCap:=dc) (sLen:=n+1 - i) (sCap:=sc) (m:=n - i) (a:=⟨b,o+i*4,none⟩) (o:=o+(i+1)*4) (ys:=ys.drop (i*4)) u_cfgs hti (by simp only[Nat.min_def];split <;> omega)
   (by
    rw[hsz]
    exact run_firstCells_some w.drew 4 (n - i) _ _ sc _ hdl fun j v hj=>by
     rw[Addr.add_lit,Nat.add_assoc]
     exact hyc _ v (by rwa [List.getElem?_drop]at hj)) hcur (by rw[hdl];omega) (fun v hv=>hy1 v (List.mem_of_mem_drop hv))
  rw[h,hR1,hdl,show o+(i+1)*4+(n - i)*4=o+(n+1)*4 by omega]
 have hcp2:∀ty dc,(Builtin.copy_ #[53,53] ty #[.slice (some ⟨b,o+i*4,none⟩) (n+1 - i) dc,.slice (some ⟨vb,vo,none⟩) 1 vc]).run Tryz.prog (w.drew.setRow b R1)=.ok (goInt ((1:Nat):Int)) ((w.drew.setRow b R1).setRow b (R1.toList.take (o+i*4)++zs++R1.toList.drop (o+i*4+4)).toArray):=fun ty dc=>by
  have h:=run_copy_row' (P:=Tryz.prog) (w:=w.drew.setRow b R1) (sT:=53) (ty:=ty) (dLen:=n+1 - i) (dCap:=dc) (sLen:=1) (sCap:=vc) (m:=1) (a:=⟨vb,vo,none⟩) (o:=o+i*4) (ys:=zs) u_cfgs hti (by simp only[Nat.min_def];split <;> omega)
   (by
    rw[hsz]
    exact run_firstCells_some _ 4 1 _ _ vc _ (by omega) fun j v hj=>by
     rw[Addr.add_lit]
     have e:(w.drew.setRow b R1).cell? ⟨vb,vo+j,none⟩=w.cell? ⟨vb,vo+j,none⟩:=by
      unfold World.cell?
      simp only[setRow_other w.drew b vb R1 hvb]
      rfl
     rw[e]
     exact hzc j v hj) (run_setRow_heap w.drew b cur 82 R1 hcur) (by rw[hzs,hR1s];omega) hz1
  rw[h,hzs]
 refine(ins_shift0 b o n c i vb vo vc w _ _ _ _ hi hroom hc63 hov hcp1 hcp2).mono ?_
 rintro e w' ⟨h1,h2⟩
 exact⟨h1,R1,hR1,h2⟩
set_option maxHeartbeats 4000000 in
set_option maxRecDepth 100000 in
theorem ins_grow0(b o n c i vb vo vc N G:Nat)(w W1 W2 W3:World)(v1 v2:Value)(hi:i<n)(hroom:c<n+1)(hnc:n≤c)(hn63:n+1≤9223372036854775807)(hG:n+1≤G)(hG63:G≤9223372036854775807)
  (hap:∀ty,(Builtin.append_ #[53,3] ty #[.slice (some ⟨b,o,none⟩) i c,.int .i64 ((n:Int)+1 - (i:Int))]).run Tryz.prog w=.ok (.slice (some ⟨N,0,none⟩) (n+1) G) W1)
  (hcpA:∀ty dc,(Builtin.copy_ #[53,53] ty #[.slice (some ⟨N,i*4,none⟩) (n+1 - i) dc,.slice (some ⟨vb,vo,none⟩) 1 vc]).run Tryz.prog W1=.ok v1 W2)
  (hcpB:∀ty dc sc,(Builtin.copy_ #[53,53] ty #[.slice (some ⟨N,(i+1)*4,none⟩) (n - i) dc,.slice (some ⟨b,o+i*4,none⟩) (n - i) sc]).run Tryz.prog W2.drew=.ok v2 W3) :
  Calls Tryz.prog 65 #[.slice (some ⟨b,o,none⟩) n c,.int .i64 i,.slice (some ⟨vb,vo,none⟩) 1 vc] w fun e w'=>e=.returned (.slice (some ⟨N,0,none⟩) (n+1) G)∧w'=W3:=by
 have hz2:¬((i:Int)=(n:Int)):=by omega
 have hz3:(c:Int)<(n:Int)+1:=by omega
 have mixed:Tryz.prog.follows .mixedOrders=true:=by kernel_rfl
 have hw1:IntKind.i64.wrap ((i:Int)+1)=(i:Int)+1:=by rw[IntKind.wrap_i64];omega
 have hw2:IntKind.i64.wrap ((n:Int)+1)=(n:Int)+1:=by rw[IntKind.wrap_i64];omega
 have hw3:IntKind.i64.wrap ((n:Int)+1 - (i:Int))=(n:Int)+1 - (i:Int):=by rw[IntKind.wrap_i64];omega
 have hb1:(0:Int)≤(i:Int)+1:=by omega
 have htn:((i:Int)+1).toNat=i+1:=by omega
 have hb3:(i:Int)+1≤(n:Int)+1:=by omega
 have hb5:(i:Int)≤(n:Int)+1:=by omega
 have hb6:(i:Int)≤(n:Int):=by omega
 have hb7:(i:Int)≤(c:Int):=by omega
 have hb4:¬(c=i):=by omega
 have hGi:¬(G=i):=by omega
 have hGi1:¬(G=i+1):=by omega
 go_enter Tryz.func65,Tryz.ntmps65
 go_wp2_with (first
  | (at_builtin;refine Lib.wpList_append_run _ rfl _ _ _ _ rfl _ _ rfl rfl _ _ (hap _) ?_)
  | (at_builtin;refine wpList_copy_runI _ rfl _ _ 53 53 rfl _ _ rfl rfl (hcpA _ _) ?_))
 go_region_law_o (refine step_copy_runI rfl _ _ 53 53 rfl _ _ (by simp[Act.eval,Act.put]) (by simp[Act.eval,Act.put]) (hcpB _ _ _) ?_)
 go_wp2
 go_ret
 exact⟨rfl,rfl⟩
end Go.Proofs.YtjlgpanihjnaeaaGreatDoor

namespace Go.Proofs.YtjlgpanihjnaeaaGreatDoor
open Go.AM Go.RowKit Go.Lib
theorem ins_apart(w:World)(a b:Nat)(oa ob:Nat)(ca cb:Array Value)(ta tb:TypeId)(vc lb cp:Nat)(ha:w.heap[a]? = some (.cells ca ta (0,0)))(hb:w.heap[b]? = some (.cells cb tb (0,0)))(hne:a≠b)(h0:cb.size≠0) :
  (callFunc 82 #[.slice (some ⟨a,oa,none⟩) 1 vc,.slice (some ⟨b,ob,none⟩) lb cp]).run Tryz.prog w=.ok (.value (.bool false)) w:=by
 obtain⟨ti,hti,hsz,hby⟩:=i_cfg
 rw[run_callFunc_extern Tryz.func82 (by kernel_rfl) (by kernel_rfl) (by kernel_rfl) (e:=Extern.SlicesOverlaps.overlaps #[53,53] #[4]) (by kernel_rfl),
  Lib.run_overlaps_apart w 53 4 82 u_cfgs 4 (fun w=>by simp[sizeOf,typeInfo,hti,hsz]) ⟨a,oa,none⟩ ⟨b,ob,none⟩ 1 vc lb cp hne ta tb ca.size cb.size (by simp[World.shape?,ha]) (by simp[World.shape?,hb]) h0 (by simp[World.frozen?,ha]) (by simp[World.frozen?,ha])]
 rfl
theorem ins_row{cur:List Value}{ol zl:List Value}{o i len:Nat}(hi:i<len)(ho:ol.length=len*4)(hz:zl.length=4)(hc:o+(len+1)*4≤cur.length)(hold:∀j v,ol[j]? = some v→cur[o+j]? = some v){R1 R2:List Value}
  (h1:R1=cur.take (o+(i+1)*4)++ol.drop (i*4)++cur.drop (o+(len+1)*4)) (h2:R2=R1.take (o+i*4)++zl++R1.drop (o+i*4+4)) (j:Nat) (v:Value)
  (e:(ol.take (i*4)++zl++ol.drop (i*4))[j]? = some v):R2[o+j]? = some v:=by
 have hR1:R1.length=cur.length:=by rw[h1];simp only[List.length_append,List.length_take,List.length_drop,ho];omega
 rw[h2]
 by_cases c1:j<i*4
 ·rw[List.append_assoc,List.getElem?_append_left (by simp[ho];omega),List.getElem?_take,if_pos c1]at e
  rw[List.append_assoc,List.getElem?_append_left (by simp[hR1];omega),List.getElem?_take,if_pos (by omega),h1,List.append_assoc,List.getElem?_append_left (by simp;omega),List.getElem?_take,if_pos (by omega)]
  exact hold j v e
 ·by_cases c2:j<i*4+4
  ·rw[List.append_assoc,List.getElem?_append_right (by simp[ho];omega),List.getElem?_append_left (by simp[ho,hz];omega)]at e
   rw[List.append_assoc,List.getElem?_append_right (by simp[hR1];omega),List.getElem?_append_left (by simp[hR1,hz];omega)]
   rw[←e]
   congr 1
   simp[hR1,ho];omega
  ·rw[List.getElem?_append_right (by simp[ho,hz];omega),List.getElem?_drop]at e
   have hj:j<len*4+4:=by
    have:=(List.getElem?_eq_some_iff.1 e).1
    simp[ho,hz]at this;omega
   rw[List.getElem?_append_right (by simp[hR1,hz];omega),List.getElem?_drop,h1,List.getElem?_append_left (by simp[ho,hR1,hz];omega),List.getElem?_append_right (by simp[hR1,hz];omega),List.getElem?_drop,←e]
   congr 1
   simp[hR1,ho,hz];omega
set_option maxHeartbeats 4000000 in
theorem ins_sound {y x len i n : Nat} {cs xs : List Value} {H : Heap} (hy : H y = .cells cs 82 true) (hx : H x = .cells xs 82 true) (hxl : xs.length = 4) (hcl : len * 4 ≤ cs.length) (hi : i < len) (hxy : x ≠ y) (hlen : len + 1 ≤ bigN) :
    CallSound Tryz.prog 65 [.slice (some ⟨y, 0, none⟩) len len, .int .i64 (i : Nat), .slice (some ⟨x, 0, none⟩) 1 1] n H (.slice (some ⟨n, 0, none⟩) (len + 1) (len + 1)) (n + 1)
      (hset (hset H y .dead) n (.cells ((cs.take (len * 4)).take (i * 4) ++ xs ++ (cs.take (len * 4)).drop (i * 4)) 82 true)) := by
  intro hwf base ι C w args' hv hR hp hf
  obtain ⟨s', k, rfl, hs, hv⟩ := hv.cons_inv
  obtain ⟨i', k, rfl, hi', hv⟩ := hv.cons_inv
  obtain ⟨x', k, rfl, hx', hv⟩ := hv.cons_inv
  rw [hv.nil_inv]
  cases hi'
  obtain ⟨ti, tz, hti, hsz, hby, htz, hzs⟩ := z_cfg
  have hcof : Tryz.prog.cellsOf 82 = 4 := by simp [Program.cellsOf, hti, hsz]
  have hbn : bigN = 34359738368 := rfl
  cases hs with
  | sliceE _ _ a t' ht' how => omega
  | slice _ _ _ o c t ht ho hc hm how =>
  cases hx' with
  | slice _ _ _ ox vc tx htx hox hcx hmx howx =>
  have hCy : C y = .cells cs 82 true := (hp y (by rw [ht]; simp) (by rw [hy]; intro e; cases e)).trans hy
  have hCx : C x = .cells xs 82 true := (hp x (by rw [htx]; simp) (by rw [hx]; intro e; cases e)).trans hx
  have oby := hR.obj y
  have obx := hR.obj x
  rw [hCy] at oby
  rw [hCx] at obx
  obtain ⟨t2, h2, hto, hcell, hw⟩ := oby
  rw [ht] at h2
  cases h2
  obtain ⟨t3, h3, htox, hcellx, hwx⟩ := obx
  rw [htx] at h3
  cases h3
  obtain ⟨hesz, ⟨hbs, hal⟩, cur, hcur, hcsz⟩ := hw rfl
  obtain ⟨heszx, ⟨hbsx, halx⟩, curx, hcurx, hcszx⟩ := hwx rfl
  obtain ⟨hcap, hmd⟩ := how hto
  rw [hesz, hcof] at hcap
  have hne : tx.block ≠ t.block := fun e => hxy (hR.uniq (x := y) (y := x) (by rw [hCy]; intro e; cases e) (by rw [hCy]; exact id) (by rw [hCx]; intro e; cases e) ht htx hto e.symm).symm
  obtain ⟨ol, holl, holv, holc⟩ := cells_list hcell 0 (len * 4) (by omega)
  obtain ⟨zl, hzll, hzlv, hzlc⟩ := cells_list hcellx 0 4 (by omega)
  have ho' : o = t.off := (ho (by omega)).trans (Nat.add_zero _)
  have hox' : ox = tx.off := (hox (by omega)).trans (Nat.add_zero _)
  subst ho' hox'
  rw [List.drop_zero] at holv
  rw [List.drop_zero, List.take_of_length_le (by omega)] at hzlv
  have hyc : ∀ j v, ol[j]? = some v → w.cell? ⟨t.block, t.off + j, none⟩ = some v := fun j v e => by simpa [add_lit] using holc j v e
  have hzc : ∀ j v, zl[j]? = some v → w.cell? ⟨tx.block, tx.off + j, none⟩ = some v := fun j v e => by simpa [add_lit] using hzlc j v e
  have honey : (cs.take (len * 4)).all one = true := by have := all_take_drop (one_list hcell) 0 (len * 4); rwa [List.drop_zero] at this
  have honex : xs.all one = true := one_list hcellx
  have hZ : VRs ι ((cs.take (len * 4)).take (i * 4) ++ xs ++ (cs.take (len * 4)).drop (i * 4)) (ol.take (i * 4) ++ zl ++ ol.drop (i * 4)) := ((holv.take _).append hzlv).append (holv.drop _)
  have honeZ : ((cs.take (len * 4)).take (i * 4) ++ xs ++ (cs.take (len * 4)).drop (i * 4)).all one = true := by
    rw [List.all_append, List.all_append, Bool.and_eq_true, Bool.and_eq_true]
    exact ⟨⟨List.all_eq_true.2 fun v hv => List.all_eq_true.1 honey v (List.mem_of_mem_take hv), honex⟩, List.all_eq_true.2 fun v hv => List.all_eq_true.1 honey v (List.mem_of_mem_drop hv)⟩
  have hZl : ((cs.take (len * 4)).take (i * 4) ++ xs ++ (cs.take (len * 4)).drop (i * 4)).length = (len + 1) * 4 := by simp [hxl]; omega
  generalize (cs.take (len * 4)).take (i * 4) ++ xs ++ (cs.take (len * 4)).drop (i * 4) = Z at *
  have hιn : ι n = none := hf n (Nat.le_refl _) (Nat.lt_succ_self _)
  have hHn : H n = .dead := hwf n (Nat.le_refl _)
  have hCn : C n = .dead := Classical.byContradiction fun h => by
    obtain ⟨u, hu⟩ := (hR.obj n).tgt h
    rw [hιn] at hu; cases hu
  have hyn : y ≠ n := by intro e; subst e; rw [ht] at hιn; cases hιn
  have hy1 : ∀ v ∈ ol, v.oneCell' = true := holv.all_one honey
  have hz1 : ∀ v ∈ zl, v.oneCell' = true := hzlv.all_one honex
  have hov := fun lb cb => ins_apart w tx.block t.block tx.off (t.off + (i + 1) * 4) curx cur 82 82 vc lb cb hcurx hcur hne (by omega)
  have hch : Ch C H (hset (hset C y .dead) n (.cells Z 82 true)) (hset (hset H y .dead) n (.cells Z 82 true)) := fun z => by
    by_cases e1 : z = n
    · subst e1
      exact .inr ⟨by rw [hset_same, hset_same], by rw [hCn, hHn]⟩
    · by_cases e2 : z = y
      · subst e2
        exact .inr ⟨by rw [hset_other _ _ e1, hset_other _ _ e1, hset_same, hset_same], by rw [hCy, hy]⟩
      · exact .inl ⟨by rw [hset_other _ _ e1, hset_other _ _ e2], by rw [hset_other _ _ e1, hset_other _ _ e2]⟩
  by_cases hroom : len + 1 ≤ c
  · refine (ins_shift t.block t.off len c i tx.block tx.off vc w ol zl cur hi hroom (by unfold maxLen at hm; omega) hcur (by omega) holl hzll hyc hzc hy1 hz1 hne hov).mono ?_
    rintro e w' ⟨rfl, R1, hR1, rfl⟩
    obtain ⟨R2, hR2⟩ : ∃ R2 : Array Value, R2 = (R1.toList.take (t.off + i * 4) ++ zl ++ R1.toList.drop (t.off + i * 4 + 4)).toArray := ⟨_, rfl⟩
    rw [← hR2]
    have hcl2 := Array.length_toList (xs := cur)
    have hrow := fun j v e => ins_row (cur := cur.toList) (ol := ol) (zl := zl) (o := t.off) hi holl hzll (by omega) (fun j v e => by
      have := hyc j v e
      rw [cell_of_row _ _ _ _ _ _ hcur] at this
      simpa using this) (R1 := R1.toList) (R2 := R2.toList) (by rw [hR1]) (by rw [hR2]) j v e
    have hR1s : R1.size = cur.size := by
      rw [hR1]
      simp only [List.size_toArray, List.length_append, List.length_take, List.length_drop, holl]; omega
    have hR2s : R2.size = cur.size := by
      rw [hR2, ← hR1s]
      have := Array.length_toList (xs := R1)
      simp only [List.size_toArray, List.length_append, List.length_take, List.length_drop, hzll]; omega
    have hh1 := setRow_heap w.drew t.block cur R1 82 (0, 0) hcur
    have hh2 := setRow_heap (w.drew.setRow t.block R1) t.block R1 R2 82 (0, 0) hh1
    refine ⟨_, iset ι n ⟨t.block, t.off, true, t.esz, t.bsize⟩, _, rfl, .slice n 0 (len + 1) t.off c ⟨t.block, t.off, true, t.esz, t.bsize⟩ (iset_same _ _ _) (fun _ => rfl) hroom hm (fun _ => ⟨by rw [hesz, hcof]; exact hcap, hmd⟩), iset_le _ hιn, fun q hq => iset_other _ _ (by omega), hch, fun q hq => ?_, ?_, ?_⟩
    · by_cases e1 : q = n
      · subst e1; rw [iset_same]; simp
      · by_cases e2 : q = y
        · subst e2; rw [iset_other _ _ e1, ht]; simp
        · exact absurd (by rw [hset_other _ _ e1, hset_other _ _ e2]) hq
    · refine (hR.kill y).update (t := ⟨t.block, t.off, true, t.esz, t.bsize⟩) (iset_le _ hιn) (iset_same _ _ _) (fun q hq => iset_other _ _ hq) (by simp) (fun q _ hq => (setRow_other _ _ q _ hq).trans (setRow_other _ _ q _ hq)) ?_ rfl ((hR.rng y t ht).2.1 hto) (by simpa using (hR.rng y t ht).1) ?_
      · intro q v hq hd e hbl
        by_cases hqy : q = y
        · subst hqy; rw [hset_same] at hd; exact hd rfl
        · rw [hset_other _ _ hqy] at hd
          exact hqy (hR.uniq (x := y) (by rw [hCy]; intro e; cases e) (by rw [hCy]; exact id) hd ht e hto hbl.symm).symm
      · refine ⟨_, iset_same _ _ _, rfl, fun q v e => ?_, fun _ => ⟨hesz, ⟨by simp only [hZl]; omega, hal⟩, R2, hh2, by rw [hR2s, hcsz]⟩⟩
        obtain ⟨v', e1, e2⟩ := hZ.get e
        refine ⟨v', ?_, e2.mono (iset_le _ hιn), List.all_eq_true.1 honeZ v (List.mem_of_getElem? e)⟩
        rw [cell_of_row _ _ _ _ _ _ hh2]
        simpa using hrow q v' e1
    · exact below_setRow (below_setRow ((Below.refl _ _).drew) ((hR.rng y t ht).2.1 hto) _) ((hR.rng y t ht).2.1 hto) _
  · have hik : i + (len + 1 - i) = len + 1 := by omega
    obtain ⟨N, hN⟩ : ∃ N, w.heap.size = N := ⟨_, rfl⟩
    obtain ⟨G, hG⟩ : ∃ G, grownCap w (len + 1) c 82 = G := ⟨_, rfl⟩
    have hge : len + 1 ≤ G := by rw [← hG]; exact grownCap_ge w (len + 1) c 82
    have hle : G ≤ maxLen := by rw [← hG]; exact grownCap_le_maxLen w (len + 1) c 82 (by unfold maxLen; omega)
    have hbN : t.block < N := by rw [← hN]; exact (hR.rng y t ht).1
    have hxN : tx.block < N := by rw [← hN]; exact (hR.rng x tx htx).1
    have hapr := fun ty => run_append_make (P := Tryz.prog) (w := w) (ts := #[53, 3]) (t := 53) (u := 3) (ty := ty) (e := 82) (i := ti) (z := tz) (k := .i64) (m := len + 1 - i) (sLen := i) (sCap := c) (base' := some ⟨t.block, t.off, none⟩) (olds := ol.take (i * 4))
      rfl rfl u_cfgs (by kernel_rfl) hti htz (by omega) (by omega) (by
        rw [hsz]
        exact run_firstCells_some w.drew 4 i _ i c _ (by rw [List.length_take]; omega) fun j v hj => by
          rw [List.getElem?_take] at hj
          split at hj
          · rw [add_lit]; exact hyc j v hj
          · cases hj) (by omega) (by omega) hby
    rw [hik, hG, hN] at hapr
    obtain ⟨ROW, hROW⟩ : ∃ ROW : Array Value, (ol.take (i * 4)).toArray ++ Builtin.zeroCells tz.cells (len + 1 - i) ++ Builtin.zeroCells tz.cells (G - (len + 1)) = ROW := ⟨_, rfl⟩
    have hRs : ROW.size = G * 4 := by
      rw [← hROW]
      simp only [Array.size_append, List.size_toArray, size_zeroCells, hzs, List.length_take, holl]; omega
    have hR0 : ∀ j v, j < i * 4 → ol[j]? = some v → ROW[j]? = some v := fun j v hj e => by
      rw [← hROW, Array.append_assoc, Array.getElem?_append_left (by simp [holl]; omega)]
      simp only [List.getElem?_toArray, List.getElem?_take, if_pos hj, e]
    rw [hROW] at hapr
    clear hROW
    have hh0 : (w.drew.alloc (.cells ROW 82)).heap[N]? = some (.cells ROW 82 (0, 0)) := by rw [← hN]; exact heap_alloc_new w.drew _
    have hold : ∀ k, k < N → (w.drew.alloc (.cells ROW 82)).heap[k]? = w.heap[k]? := fun k hk => heap_alloc_old w.drew _ (by rw [← hN] at hk; exact hk)
    have hROWl := Array.length_toList (xs := ROW)
    obtain ⟨A2, hA2⟩ : ∃ A2 : Array Value, (ROW.toList.take (i * 4) ++ zl ++ ROW.toList.drop (i * 4 + 4)).toArray = A2 := ⟨_, rfl⟩
    have hA2s : A2.size = G * 4 := by
      rw [← hA2]
      simp only [List.size_toArray, List.length_append, List.length_take, List.length_drop, hzll]; omega
    have hA2l := Array.length_toList (xs := A2)
    have hcpA : ∀ ty dc, (Builtin.copy_ #[53, 53] ty #[.slice (some ⟨N, i * 4, none⟩) (len + 1 - i) dc, .slice (some ⟨tx.block, tx.off, none⟩) 1 vc]).run Tryz.prog (w.drew.alloc (.cells ROW 82)) = .ok (goInt ((1 : Nat) : Int)) ((w.drew.alloc (.cells ROW 82)).setRow N A2) := fun ty dc => by
      have h := run_copy_row' (P := Tryz.prog) (w := w.drew.alloc (.cells ROW 82)) (sT := 53) (ty := ty) (dLen := len + 1 - i) (dCap := dc) (sLen := 1) (sCap := vc) (m := 1) (a := ⟨tx.block, tx.off, none⟩) (o := i * 4) (ys := zl) u_cfgs hti (by simp only [Nat.min_def]; split <;> omega)
        (by
          rw [hsz]
          exact run_firstCells_some _ 4 1 _ _ vc _ (by omega) fun j v hj => by
            have h1 := hzc j v hj
            rw [add_lit]
            unfold World.cell? at h1 ⊢
            rw [hold _ hxN]
            exact h1) hh0 (by rw [hzll]; omega) hz1
      rw [h, hzll, hA2]
    have hh2 := setRow_heap (w.drew.alloc (.cells ROW 82)) N ROW A2 82 (0, 0) hh0
    obtain ⟨A3, hA3⟩ : ∃ A3 : Array Value, (A2.toList.take ((i + 1) * 4) ++ ol.drop (i * 4) ++ A2.toList.drop ((i + 1) * 4 + (len - i) * 4)).toArray = A3 := ⟨_, rfl⟩
    have hdl : (ol.drop (i * 4)).length = (len - i) * 4 := by rw [List.length_drop, holl]; omega
    have hA3s : A3.size = G * 4 := by
      rw [← hA3]
      simp only [List.size_toArray, List.length_append, List.length_take, List.length_drop, holl]; omega
    have hcpB : ∀ ty dc sc, (Builtin.copy_ #[53, 53] ty #[.slice (some ⟨N, (i + 1) * 4, none⟩) (len - i) dc, .slice (some ⟨t.block, t.off + i * 4, none⟩) (len - i) sc]).run Tryz.prog ((w.drew.alloc (.cells ROW 82)).setRow N A2).drew =
        .ok (goInt ((len - i : Nat) : Int)) (((w.drew.alloc (.cells ROW 82)).setRow N A2).drew.setRow N A3) := fun ty dc sc => by
      have h := run_copy_row' (P := Tryz.prog) (w := ((w.drew.alloc (.cells ROW 82)).setRow N A2).drew) (sT := 53) (ty := ty) (dLen := len - i) (dCap := dc) (sLen := len - i) (sCap := sc) (m := len - i) (a := ⟨t.block, t.off + i * 4, none⟩) (o := (i + 1) * 4) (ys := ol.drop (i * 4)) u_cfgs hti (by simp only [Nat.min_def]; split <;> omega)
        (by
          rw [hsz]
          exact run_firstCells_some _ 4 (len - i) _ _ sc _ hdl fun j v hj => by
            rw [List.getElem?_drop] at hj
            have h1 := hyc _ v hj
            rw [add_lit, Nat.add_assoc]
            have h2 : ((w.drew.alloc (.cells ROW 82)).setRow N A2).drew.heap[t.block]? = w.heap[t.block]? := (setRow_other _ N t.block A2 (by omega)).trans (hold _ hbN)
            unfold World.cell? at h1 ⊢
            rw [h2]
            exact h1) hh2 (by rw [hdl]; omega) (fun v hv => hy1 v (List.mem_of_mem_drop hv))
      rw [h, hdl, hA3]
    refine (ins_grow0 t.block t.off len c i tx.block tx.off vc N G w _ _ _ _ _ hi (by omega) hc (by omega) hge (by unfold maxLen at hle; omega) (fun ty => by
      have := hapr ty
      rwa [show ((len + 1 - i : Nat) : Int) = (len : Int) + 1 - (i : Int) by omega] at this) hcpA hcpB).mono ?_
    rintro e w' ⟨rfl, rfl⟩
    have hheap : (((w.drew.alloc (.cells ROW 82)).setRow N A2).drew.setRow N A3).heap = (w.drew.alloc (.cells A3 82)).heap := by
      apply Array.ext_getElem?
      intro k
      by_cases hk : k = N
      · subst hk
        refine (setRow_heap ((w.drew.alloc (.cells ROW 82)).setRow k A2).drew k A2 A3 82 (0, 0) hh2).trans ?_
        rw [← hN]
        exact (heap_alloc_new w.drew _).symm
      · refine (setRow_other _ N k A3 hk).trans ((setRow_other _ N k A2 hk).trans ?_)
        have h1 : ∀ A : Array Value, (w.drew.alloc (.cells A 82)).heap = w.heap.push (.cells A 82) := fun _ => rfl
        rw [h1, h1, Array.getElem?_push, Array.getElem?_push, hN, if_neg hk, if_neg hk]
    have hrow : ∀ j v, (ol.take (i * 4) ++ zl ++ ol.drop (i * 4))[j]? = some v → A3[j]? = some v := fun j v e => by
      rw [← hA3, List.getElem?_toArray]
      by_cases c1 : j < i * 4 + 4
      · rw [List.append_assoc, List.getElem?_append_left (by simp [hA2s]; omega), List.getElem?_take, if_pos (by omega), ← hA2]
        by_cases c2 : j < i * 4
        · rw [List.append_assoc, List.getElem?_append_left (by simp [holl]; omega), List.getElem?_take, if_pos c2] at e
          rw [List.append_assoc, List.getElem?_append_left (by simp [hRs]; omega), List.getElem?_take, if_pos c2]
          simpa using hR0 j v c2 e
        · rw [List.append_assoc, List.getElem?_append_right (by simp [holl]; omega), List.getElem?_append_left (by simp [holl, hzll]; omega)] at e
          rw [List.append_assoc, List.getElem?_append_right (by simp [hRs]; omega), List.getElem?_append_left (by simp [hRs, hzll]; omega), ← e]
          exact congrArg (fun k => zl[k]?) (by simp only [List.length_take, Array.length_toList, hRs, holl]; omega)
      · rw [List.getElem?_append_right (by simp [holl, hzll]; omega), List.getElem?_drop] at e
        have hj : j < len * 4 + 4 := by
          have := (List.getElem?_eq_some_iff.1 e).1
          simp [holl, hzll] at this; omega
        rw [List.append_assoc, List.getElem?_append_right (by simp [hA2s]; omega), List.getElem?_append_left (by simp [hA2s, holl]; omega), List.getElem?_drop, ← e]
        exact congrArg (fun k => ol[k]?) (by simp only [List.length_append, List.length_take, Array.length_toList, hA2s, holl, hzll]; omega)
    have hrk := ((hR.kill y).same (w' := w.drew) rfl).alloc (n := n) (cs := Z) (cur := A3) (ty := 82) hιn (fun q v e => by
      obtain ⟨v', e1, e2⟩ := hZ.get e
      exact ⟨v', hrow q v' e1, e2, List.all_eq_true.1 honeZ v (List.mem_of_getElem? e)⟩) (by rw [hZl, hA3s]; omega)
    have hNd : w.drew.heap.size = N := hN
    rw [hNd, hcof] at hrk
    refine ⟨_, iset ι n ⟨N, 0, true, 4, A3.size⟩, _, rfl, .slice n 0 (len + 1) 0 G _ (iset_same _ _ _) (fun _ => rfl) hge hle (fun _ => ⟨by simp only [hA3s, Nat.zero_add]; exact Nat.le_refl _, Nat.zero_mod _⟩), iset_le _ hιn, fun q hq => iset_other _ _ (by omega), hch, fun q hq => ?_, hrk.same hheap, ?_⟩
    · by_cases e1 : q = n
      · subst e1; rw [iset_same]; simp
      · by_cases e2 : q = y
        · subst e2; rw [iset_other _ _ e1, ht]; simp
        · exact absurd (by rw [hset_other _ _ e1, hset_other _ _ e2]) hq
    · have hb := hR.size
      exact below_setRow (below_setRow ((Below.refl base w).drew.alloc hR.size _) (by omega) _).drew (by omega) _
end Go.Proofs.YtjlgpanihjnaeaaGreatDoor

namespace Go.Proofs.YtjlgpanihjnaeaaGreatDoor
open Go.AM
set_option maxRecDepth 100000
theorem ins_bs{y x len i n:Nat}{cs xs:List Value}{H:Heap}(hy:H y=.cells cs 82 true)(hx:H x=.cells xs 82 true)(hxl:xs.length=4)(hcl:len*4≤cs.length)(hi:i<len)(hxy:x≠y)(hlen:len+1≤bigN)(hyn:y<n) :
  BS Tryz.prog (.call 65 [.slice (some ⟨y,0,none⟩) len len,.int .i64 (i:Nat),.slice (some ⟨x,0,none⟩) 1 1] n H) (.ret (.slice (some ⟨n,0,none⟩) (len+1) (len+1)) (n+1) (hset (hset H y .dead) n (.cells (insCs 4 len i cs xs) 82 true))):=by
 refine .prim ⟨_,_,ok65⟩ ⟨Nat.le_succ n,fun hw z hz=>?_,fun z hz hd=>?_⟩ (ins_sound hy hx hxl hcl hi hxy hlen)
 ·rw[hset_apply,if_neg (by omega),hset_apply]
  split
  ·rfl
  ·exact hw z (by omega)
 ·rw[hset_apply,if_neg (by omega),hset_apply]
  split
  ·rfl
  ·exact hd
end Go.Proofs.YtjlgpanihjnaeaaGreatDoor
