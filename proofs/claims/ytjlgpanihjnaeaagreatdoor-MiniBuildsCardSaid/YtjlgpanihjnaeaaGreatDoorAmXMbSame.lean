/- A part of a proof. Its conditions: none. -/
import Derived.Test.YtjlgpanihjnaeaaGreatDoorAmXAtMv2
import Derived.Test.YtjlgpanihjnaeaaGreatDoorAmC
set_option linter.all false
namespace Go.Proofs.YtjlgpanihjnaeaaGreatDoor
open Go.AM
set_option maxRecDepth 100000
theorem gkp:GK Tryz.prog 58 prV goodP:=gkP (ti:=3) (by kernel_rfl) (by kernel_rfl) (by kernel_rfl) (Nat.lt_of_lt_of_le Nat.zero_lt_one (Nat.le_of_ble_eq_true (by kernel_rfl))) (by kernel_rfl) (by kernel_rfl) (by kernel_rfl)
theorem und_mp:Tryz.prog.underlying 59=some (.map 58 4):=by kernel_rfl
theorem zero_bool:((Tryz.prog.info? 4).bind (·.zero))=some (.bool false):=by kernel_rfl
theorem live_lt1{n:Nat}{H:Heap}(hw:WF n H){z:Nat}(h:H z≠.dead):z<n:=by
 apply Classical.byContradiction
 intro hc
 exact h (hw z (by omega))
theorem aop_ins2{P:Program}{n:Nat}{H:Heap}{ρ:Operand→Value}{d:Option Nat}{t:TypeId}{m k x:Operand}{ty:TypeId}{p:String}{af:Array Edge}{gd:Option (Nat × Bool)} :
  aop P ρ n H ⟨d,.insert t m k x,ty,p,af,gd⟩=amapset P t H (ρ m) (ρ k) (ρ x):=rfl
theorem pr_len:∀T:List (Nat × Nat),(T.flatMap prC).length=T.length*2
 | []=>rfl
 | a::l=>by rw[List.flatMap_cons,List.length_append,pr_len l,List.length_cons];show 2+l.length*2=_;omega
structure Sn(N:List (List Int))(R:List Int)(N':List (List Int))(R':List Int)(w:Nat)(S T:List (Nat × Nat)):Prop where
 zero:(0,0)∈S
 nd:S.Nodup
 lt:∀x,x∈S→x.1<N.length∧x.2<N'.length
 sub:∀x,x∈T→x∈S
 tnd:T.Nodup
 sim:∀x,x∈S→Mini.Sim N R N' R' w 0 0→Mini.Sim N R N' R' w x.1 x.2
def Dn(N:List (List Int))(R:List Int)(N':List (List Int))(R':List Int)(w:Nat)(S:List (Nat × Nat))(x:Nat × Nat):Prop :=
 Mini.at1 R x.1=Mini.at1 R' x.2∧∀t,t<w→(Mini.at2 N x.1 t<0↔Mini.at2 N' x.2 t<0)∧(0≤Mini.at2 N x.1 t→((Mini.at2 N x.1 t).toNat,(Mini.at2 N' x.2 t).toNat)∈S)
theorem Dn.mono{N R N' R' w S S' x}(h:Dn N R N' R' w S x)(hs:∀y,y∈S→y∈S'):Dn N R N' R' w S' x:=⟨h.1,fun t ht=>⟨(h.2 t ht).1,fun h0=>hs _ ((h.2 t ht).2 h0)⟩⟩
theorem Sn.done{N R N' R' w S}(h:Sn N R N' R' w S [])(hd:∀x,x∈S→Dn N R N' R' w S x):Mini.Sim N R N' R' w 0 0 :=
 ⟨fun a b=>(a,b)∈S,⟨fun s u hb=>(hd _ hb).1,fun s u hb t ht=>((hd _ hb).2 t ht).1,fun s u hb t ht h0=>((hd _ hb).2 t ht).2 h0⟩,h.zero⟩
theorem Sn.few{N R N' R' w S T}(h:Sn N R N' R' w S T):S.length≤N.length*N'.length:=by
 have h1:(S.map fun x=>x.1*N'.length+x.2).Nodup:=by
  have hp:=h.nd
  rw[List.nodup_iff_pairwise_ne]at hp ⊢
  rw[List.pairwise_map]
  refine hp.imp_of_mem fun{a b} ha hb hne e=>hne ?_
  obtain⟨a1,a2⟩:=h.lt a ha
  obtain⟨b1,b2⟩:=h.lt b hb
  have e1:a.1=b.1:=by
   rcases Nat.lt_trichotomy a.1 b.1 with c|c|c
   ·have:=Nat.mul_le_mul_right N'.length (Nat.succ_le_of_lt c);rw[Nat.succ_mul]at this;omega
   ·exact c
   ·have:=Nat.mul_le_mul_right N'.length (Nat.succ_le_of_lt c);rw[Nat.succ_mul]at this;omega
  refine Prod.ext e1 ?_
  rw[e1]at e;omega
 have:=Mini.sub_len (m:=List.range (N.length*N'.length)) h1 (fun y hy=>by
  obtain⟨x,hx,rfl⟩:=List.mem_map.1 hy
  obtain⟨a1,a2⟩:=h.lt x hx
  have:=Nat.mul_le_mul_right N'.length (Nat.succ_le_of_lt a1)
  rw[Nat.succ_mul]at this
  simp;omega)
 simpa using this
set_option maxHeartbeats 8000000 in
theorem msame_gives {v v' : Value} {N N' : List (List Int)} {R R' : List Int} {n0 : Nat} {H0 : Heap} (hw0 : WF n0 H0) (hd : RD H0 v N R) (hd' : RD H0 v' N' R') (ws : WA N R) (ws' : WA N' R') (hN : N.length ≤ 1000) (hN' : N'.length ≤ 1000) :
    Gives Tryz.prog 10 [v, v'] n0 H0 fun v _ _ => ∃ t, v = .bool t ∧ (t = true ↔ Mini.rightB N R = true ∧ Mini.rightB N' R' = true ∧ (N.getD 0 []).length = (N'.getD 0 []).length ∧ Mini.Sim N R N' R' (N.getD 0 []).length 0 0) := by
  have hd0 := hd
  have hd0' := hd'
  obtain ⟨a, b, rfl, hN0, hR0⟩ := hd
  obtain ⟨a', b', rfl, hN0', hR0'⟩ := hd'
  refine Gives.of orders ok10 (Nat.le_of_ble_eq_true rfl) ?_
  have hk := (Kp.new n0 H0 (.cells (acells a b N R) 31 true)).trans (Kp.new (n0 + 1) (hset H0 n0 (.cells (acells a b N R) 31 true)) (.cells (acells a' b' N' R') 31 true))
  have hb : hset (hset H0 n0 (.cells (acells a b N R) 31 true)) (n0 + 1) (.cells (acells a' b' N' R') 31 true) n0 = .cells (acells a b N R) 31 true := (hset_ne _ _ _ (by omega)).trans (hset_at _ _ _)
  have hb' := hset_at (hset H0 n0 (.cells (acells a b N R) 31 true)) (n0 + 1) (.cells (acells a' b' N' R') 31 true)
  repeat (first | apply WK.seq | apply WK.block | apply WK.skipSeq | apply WK.skipBlock | apply WK.retSeq | apply WK.retBlock | apply WK.exitSeq | apply WK.exitHere | refine WK.exitOn rfl ?_)
  (refine WK.rgn ?_ ?_; kernel_rfl; simp (config := { maxSteps := 1000000 }) only [SS, qx14, forall_const, vun, tap, tap2, tap3, tap4, tsrc, tsrc2, Int.reduceEq, Int.reduceNeg, Nat.reduceGT, Nat.reduceLT, Nat.reduceLeDiff, Nat.reduceEqDiff, ↓reduceIte, reduceCtorEq, Int.reduceToNat, Int.reduceLE, Int.reduceLT, Nat.reduceAdd, Nat.reduceMul, abox, abox_cells, abox_one, ff_10])
  repeat (first | apply WK.seq | apply WK.block | apply WK.skipSeq | apply WK.skipBlock | apply WK.retSeq | apply WK.retBlock | apply WK.exitSeq | apply WK.exitHere | refine WK.exitOn rfl ?_)
  generalize hset (hset H0 n0 (.cells (acells a b N R) 31 true)) (n0 + 1) (.cells (acells a' b' N' R') 31 true) = H1 at *
  have hd1 := hd0.mono hw0 hk
  have hw1 := hk.wf hw0
  repeat (first | apply WK.seq | apply WK.block | apply WK.skipSeq | apply WK.skipBlock | apply WK.retSeq | apply WK.retBlock | apply WK.exitSeq | apply WK.exitHere | refine WK.exitOn rfl ?_ | ((first | (refine WK.rgn ?_ ?_; kernel_rfl) | refine AtCall.now ?_); simp (config := { maxSteps := 1000000 }) only [SS, qx14, forall_const, vun, tap, tap2, tap3, tap4, tsrc, tsrc2, Int.reduceEq, Int.reduceNeg, Nat.reduceGT, Nat.reduceLT, Nat.reduceLeDiff, Nat.reduceEqDiff, ↓reduceIte, reduceCtorEq, Int.reduceToNat, Int.reduceLE, Int.reduceLT, Nat.reduceAdd, Nat.reduceMul, hb, ac_all, ac_len, ff_10]) | (refine WK.condT ?_ ?_; focus (simp only [ev_tmp, ev_const, fset_apply, Nat.reduceEqDiff, ↓reduceIte, decide_true, decide_false, hb, ac_all, ac_len, ff_10]; done)) | (refine WK.condF ?_ ?_; focus (simp only [ev_tmp, ev_const, fset_apply, Nat.reduceEqDiff, ↓reduceIte, decide_true, decide_false, hb, ac_all, ac_len, ff_10]; done)))
  refine AtCall.by (mright_gives hw1 hd1 ws) ?_
  rintro v n2 H2 k2 rfl
  have hle2 := k2.le
  have hb2 := (k2.keep n0 (by omega)).trans hb
  have hb2' := (k2.keep (n0 + 1) (by omega)).trans hb'
  have hw2 := k2.wf hw1
  cases hri : Mini.rightB N R with
  | false =>
    simp (config := { maxSteps := 1000000 }) only [SS, qx14, forall_const, vun, tap, tap2, tap3, tap4, tsrc, tsrc2, Int.reduceEq, Int.reduceNeg, Nat.reduceGT, Nat.reduceLT, Nat.reduceLeDiff, Nat.reduceEqDiff, ↓reduceIte, reduceCtorEq, Int.reduceToNat, Int.reduceLE, Int.reduceLT, Nat.reduceAdd, Nat.reduceMul, ff_10]
    repeat (first | apply WK.seq | apply WK.block | apply WK.skipSeq | apply WK.skipBlock | apply WK.retSeq | apply WK.retBlock | apply WK.exitSeq | apply WK.exitHere | refine WK.exitOn rfl ?_ | ((first | (refine WK.rgn ?_ ?_; kernel_rfl) | refine AtCall.now ?_); simp (config := { maxSteps := 1000000 }) only [SS, qx14, forall_const, vun, tap, tap2, tap3, tap4, tsrc, tsrc2, Int.reduceEq, Int.reduceNeg, Nat.reduceGT, Nat.reduceLT, Nat.reduceLeDiff, Nat.reduceEqDiff, ↓reduceIte, reduceCtorEq, Int.reduceToNat, Int.reduceLE, Int.reduceLT, Nat.reduceAdd, Nat.reduceMul, ff_10]) | (refine WK.condT ?_ ?_; focus (simp only [ev_tmp, ev_const, fset_apply, Nat.reduceEqDiff, ↓reduceIte, decide_true, decide_false, ff_10]; done)) | (refine WK.condF ?_ ?_; focus (simp only [ev_tmp, ev_const, fset_apply, Nat.reduceEqDiff, ↓reduceIte, decide_true, decide_false, ff_10]; done)))
    (first | refine WK.retNil ⟨Or.inr rfl, _, rfl, ?_, ?_⟩ | refine WK.skipNil ⟨Or.inl rfl, _, rfl, ?_, ?_⟩)
    · exact fun z hz => (k2.keep z (by omega)).trans (hk.keep z hz)
    · simp only [packed, fset_apply, Nat.reduceEqDiff, ↓reduceIte, List.getD_cons_zero, List.getD_cons_succ, ff_10]
      exact ⟨false, rfl, by simp⟩
  | true =>
    simp (config := { maxSteps := 1000000 }) only [SS, qx14, forall_const, vun, tap, tap2, tap3, tap4, tsrc, tsrc2, Int.reduceEq, Int.reduceNeg, Nat.reduceGT, Nat.reduceLT, Nat.reduceLeDiff, Nat.reduceEqDiff, ↓reduceIte, reduceCtorEq, Int.reduceToNat, Int.reduceLE, Int.reduceLT, Nat.reduceAdd, Nat.reduceMul, hb2', ac_all, ac_len, ff_10]
    have hd2' := (hd0'.mono hw0 hk).mono hw1 k2
    refine AtCall.by (mright_gives hw2 hd2' ws') ?_
    rintro v n3 H3 k3 rfl
    have hle3 := k3.le
    have hw3 := k3.wf hw2
    have hb3 := (k3.keep n0 (by omega)).trans hb2
    have hb3' := (k3.keep (n0 + 1) (by omega)).trans hb2'
    have kB := (hk.trans k2).trans k3
    cases hri' : Mini.rightB N' R' with
    | false =>
      simp (config := { maxSteps := 1000000 }) only [SS, qx14, forall_const, vun, tap, tap2, tap3, tap4, tsrc, tsrc2, Int.reduceEq, Int.reduceNeg, Nat.reduceGT, Nat.reduceLT, Nat.reduceLeDiff, Nat.reduceEqDiff, ↓reduceIte, reduceCtorEq, Int.reduceToNat, Int.reduceLE, Int.reduceLT, Nat.reduceAdd, Nat.reduceMul, ff_10]
      repeat (first | apply WK.seq | apply WK.block | apply WK.skipSeq | apply WK.skipBlock | apply WK.retSeq | apply WK.retBlock | apply WK.exitSeq | apply WK.exitHere | refine WK.exitOn rfl ?_ | ((first | (refine WK.rgn ?_ ?_; kernel_rfl) | refine AtCall.now ?_); simp (config := { maxSteps := 1000000 }) only [SS, qx14, forall_const, vun, tap, tap2, tap3, tap4, tsrc, tsrc2, Int.reduceEq, Int.reduceNeg, Nat.reduceGT, Nat.reduceLT, Nat.reduceLeDiff, Nat.reduceEqDiff, ↓reduceIte, reduceCtorEq, Int.reduceToNat, Int.reduceLE, Int.reduceLT, Nat.reduceAdd, Nat.reduceMul, ff_10]) | (refine WK.condT ?_ ?_; focus (simp only [ev_tmp, ev_const, fset_apply, Nat.reduceEqDiff, ↓reduceIte, decide_true, decide_false, ff_10]; done)) | (refine WK.condF ?_ ?_; focus (simp only [ev_tmp, ev_const, fset_apply, Nat.reduceEqDiff, ↓reduceIte, decide_true, decide_false, ff_10]; done)))
      (first | refine WK.retNil ⟨Or.inr rfl, _, rfl, ?_, ?_⟩ | refine WK.skipNil ⟨Or.inl rfl, _, rfl, ?_, ?_⟩)
      · exact fun z hz => kB.keep z hz
      · simp only [packed, fset_apply, Nat.reduceEqDiff, ↓reduceIte, List.getD_cons_zero, List.getD_cons_succ, ff_10]
        exact ⟨false, rfl, by simp⟩
    | true =>
      have ok := (Mini.rightB_iff N R).1 hri
      have ok' := (Mini.rightB_iff N' R').1 hri'
      have hpos := ok.pos
      have hpos' := ok'.pos
      obtain ⟨x, k, cs, ty, own, rfl, hx0, hr0⟩ := hN0.base (by intro e; rw [e] at hpos; exact absurd hpos (by simp))
      obtain ⟨x', k', cs', ty', own', rfl, hx0', hr0'⟩ := hN0'.base (by intro e; rw [e] at hpos'; exact absurd hpos' (by simp))
      have hxl := live_lt1 hw0 (z := x) (by rw [hx0]; intro e; cases e)
      have hxl' := live_lt1 hw0 (z := x') (by rw [hx0']; intro e; cases e)
      have hx3 := (kB.keep x hxl).trans hx0
      have hx3' := (kB.keep x' hxl').trans hx0'
      obtain ⟨p0, c0, _⟩ := hr0 0 hpos
      obtain ⟨p0', c0', _⟩ := hr0' 0 hpos'
      rw [Nat.add_zero] at c0 c0'
      have hNi : ((0 : Int) < (N.length : Int)) = True := by simp only [eq_iff_iff, iff_true]; omega
      have hNi' : ((0 : Int) < (N'.length : Int)) = True := by simp only [eq_iff_iff, iff_true]; omega
      obtain ⟨w, hw⟩ : ∃ w, w = (N.getD 0 []).length := ⟨_, rfl⟩
      obtain ⟨w', hw'⟩ : ∃ w', w' = (N'.getD 0 []).length := ⟨_, rfl⟩
      rw [← hw] at ok
      rw [← hw'] at ok'
      have hw0l : N[0].length = w := by rw [hw, Mini.getD_at [] hpos]
      have hw0l' : N'[0].length = w' := by rw [hw', Mini.getD_at [] hpos']
      rw [hw0l] at c0
      rw [hw0l'] at c0'
      simp only [← hw, ← hw', true_and]
      by_cases hww : w = w'
      case neg =>
        have hww' : ((w : Int) = (w' : Int)) = False := by simp only [eq_iff_iff, iff_false]; omega
        simp (config := { maxSteps := 1000000 }) only [SS, qx14, forall_const, vun, tap, tap2, tap3, tap4, tsrc, tsrc2, Int.reduceEq, Int.reduceNeg, Nat.reduceGT, Nat.reduceLT, Nat.reduceLeDiff, Nat.reduceEqDiff, ↓reduceIte, reduceCtorEq, Int.reduceToNat, Int.reduceLE, Int.reduceLT, Nat.reduceAdd, Nat.reduceMul, hb3, hb3', ac_0, ac_1, hx3, hx3', c0, c0', hNi, hNi', hww', Int.toNat_natCast, Nat.zero_add, ff_10]
        repeat (first | apply WK.seq | apply WK.block | apply WK.skipSeq | apply WK.skipBlock | apply WK.retSeq | apply WK.retBlock | apply WK.exitSeq | apply WK.exitHere | refine WK.exitOn rfl ?_ | ((first | (refine WK.rgn ?_ ?_; kernel_rfl) | refine AtCall.now ?_); simp (config := { maxSteps := 1000000 }) only [SS, qx14, forall_const, vun, tap, tap2, tap3, tap4, tsrc, tsrc2, Int.reduceEq, Int.reduceNeg, Nat.reduceGT, Nat.reduceLT, Nat.reduceLeDiff, Nat.reduceEqDiff, ↓reduceIte, reduceCtorEq, Int.reduceToNat, Int.reduceLE, Int.reduceLT, Nat.reduceAdd, Nat.reduceMul, hww', ff_10]) | (refine WK.condT ?_ ?_; focus (simp only [ev_tmp, ev_const, fset_apply, Nat.reduceEqDiff, ↓reduceIte, decide_true, decide_false, hww', ff_10]; done)) | (refine WK.condF ?_ ?_; focus (simp only [ev_tmp, ev_const, fset_apply, Nat.reduceEqDiff, ↓reduceIte, decide_true, decide_false, hww', ff_10]; done)))
        (first | refine WK.retNil ⟨Or.inr rfl, _, rfl, ?_, ?_⟩ | refine WK.skipNil ⟨Or.inl rfl, _, rfl, ?_, ?_⟩)
        · exact fun z hz => kB.keep z hz
        · simp only [packed, fset_apply, Nat.reduceEqDiff, ↓reduceIte, List.getD_cons_zero, List.getD_cons_succ, ff_10]
          exact ⟨false, rfl, by simp [hww]⟩
      subst hww
      have hww' : ((w : Int) = (w : Int)) = True := by simp
      have hput : amapset Tryz.prog 59 (hset H3 n3 (.map [] 0 58)) (.map (some n3)) (.agg #[.int .i64 0, .int .i64 0]) (.bool true) = some { v := undef, wr := some (n3, .map (tE prV [(0, 0)] 0) 1 58) } :=
        gkp.tput (k := (0, 0)) (ks := []) ⟨by simp, by simp⟩ (fun a h => by cases h) (by simp) und_mp (hset_at _ _ _)
      simp (config := { maxSteps := 1000000 }) only [SS, qx14, forall_const, vun, tap, tap2, tap3, tap4, tsrc, tsrc2, Int.reduceEq, Int.reduceNeg, Nat.reduceGT, Nat.reduceLT, Nat.reduceLeDiff, Nat.reduceEqDiff, ↓reduceIte, reduceCtorEq, Int.reduceToNat, Int.reduceLE, Int.reduceLT, Nat.reduceAdd, Nat.reduceMul, hb3, hb3', ac_0, ac_1, hx3, hx3', c0, c0', hNi, hNi', hww', Int.toNat_natCast, Nat.zero_add, ff_10]
      repeat (first | apply WK.seq | apply WK.block | apply WK.skipSeq | apply WK.skipBlock | apply WK.retSeq | apply WK.retBlock | apply WK.exitSeq | apply WK.exitHere | refine WK.exitOn rfl ?_ | ((first | (refine WK.rgn ?_ ?_; kernel_rfl) | refine AtCall.now ?_); simp (config := { maxSteps := 1000000 }) only [SS, qx14, forall_const, vun, tap, tap2, tap3, tap4, tsrc, tsrc2, Int.reduceEq, Int.reduceNeg, Nat.reduceGT, Nat.reduceLT, Nat.reduceLeDiff, Nat.reduceEqDiff, ↓reduceIte, reduceCtorEq, Int.reduceToNat, Int.reduceLE, Int.reduceLT, Nat.reduceAdd, Nat.reduceMul, hww', aop_makemap, amake, und_mp, aop_ins2, hput, ff_10]) | (refine WK.condT ?_ ?_; focus (simp only [ev_tmp, ev_const, fset_apply, Nat.reduceEqDiff, ↓reduceIte, decide_true, decide_false, hww', aop_makemap, amake, und_mp, aop_ins2, hput, ff_10]; done)) | (refine WK.condF ?_ ?_; focus (simp only [ev_tmp, ev_const, fset_apply, Nat.reduceEqDiff, ↓reduceIte, decide_true, decide_false, hww', aop_makemap, amake, und_mp, aop_ins2, hput, ff_10]; done)))
      have i1 : hset (hset H3 n3 (.map (tE prV [(0, 0)] 0) 1 58)) (n3 + 1) (.cells [.int .i64 0, .int .i64 0] 58 true) n3 = .map (tE prV [(0, 0)] 0) 1 58 := (hset_ne _ _ _ (by omega)).trans (hset_at _ _ _)
      have i2 := hset_at (hset H3 n3 (.map (tE prV [(0, 0)] 0) 1 58)) (n3 + 1) (.cells [.int .i64 0, .int .i64 0] 58 true)
      have i3 : Kp n3 H3 (n3 + 1 + 1) (hset (hset H3 n3 (.map (tE prV [(0, 0)] 0) 1 58)) (n3 + 1) (.cells [.int .i64 0, .int .i64 0] 58 true)) := (Kp.new _ _ _).trans (Kp.new _ _ _)
      generalize hset (hset H3 n3 (.map (tE prV [(0, 0)] 0) 1 58)) (n3 + 1) (.cells [.int .i64 0, .int .i64 0] 58 true) = H4 at *
      clear hput
      refine WK.loop (fun kk s => ∃ (yt : Nat) (cs1 : List Value) (S T : List (Nat × Nat)), Sn N R N' R' w S T ∧ (∀ z, z ∈ S → z ∉ T → Dn N R N' R' w S z) ∧ Kp n3 H3 s.n s.H ∧ n3 < yt ∧ s.H yt = .cells cs1 58 true ∧ T.length * 2 ≤ cs1.length ∧ cs1.take (T.length * 2) = T.flatMap prC ∧ s.H n3 = .map (tE prV S 0) S.length 58 ∧
        s.f 2 = .pointer (some ⟨n0, 0, none⟩) ∧ s.f 3 = .pointer (some ⟨n0 + 1, 0, none⟩) ∧ s.f 5 = .map (some n3) ∧ s.f 6 = .slice (some ⟨yt, 0, none⟩) T.length T.length ∧ kk = 2 * (N.length * N'.length - S.length) + T.length) (2 * (N.length * N'.length - 1) + 1) ?_ ?_
      · refine ⟨n3 + 1, _, [(0, 0)], [(0, 0)], ⟨by simp, by simp, fun z hz => ?_, fun z hz => hz, by simp, fun z hz h => ?_⟩, fun z hz h => absurd hz h, i3, by omega, i2, by simp, rfl, i1, rfl, rfl, rfl, rfl, rfl⟩
        · have : z = (0, 0) := by simpa using hz
          subst this; exact ⟨hpos, hpos'⟩
        · have : z = (0, 0) := by simpa using hz
          subst this; exact h
      clear i1 i2 i3 H4
      rintro kk ⟨f, n5, H5⟩ ⟨yt, cs1, S, T, sn, hdn, k5, hyt, hyc, htl, htk, hmp, f2, f3, f5, f6, rfl⟩ ih
      simp only at k5 hyc hmp f2 f3 f5 f6 ih
      have hw5 := (kB.trans k5).wf hw0
      have hle5 := k5.le
      have hyt5 := live_lt1 hw5 (z := yt) (by rw [hyc]; intro e; cases e)
      rcases List.eq_nil_or_concat T with rfl | ⟨T0, xq, rfl⟩
      · have hz : ((0 : Int) < ((0 : Nat) : Int)) = False := by simp
        have f6' : f 6 = .slice (some ⟨yt, 0, none⟩) 0 0 := f6
        repeat (first | apply WK.seq | apply WK.block | apply WK.skipSeq | apply WK.skipBlock | apply WK.retSeq | apply WK.retBlock | apply WK.exitSeq | apply WK.exitHere | refine WK.exitOn rfl ?_ | ((first | (refine WK.rgn ?_ ?_; kernel_rfl) | refine AtCall.now ?_); simp (config := { maxSteps := 1000000 }) only [SS, qx14, forall_const, vun, tap, tap2, tap3, tap4, tsrc, tsrc2, Int.reduceEq, Int.reduceNeg, Nat.reduceGT, Nat.reduceLT, Nat.reduceLeDiff, Nat.reduceEqDiff, ↓reduceIte, reduceCtorEq, Int.reduceToNat, Int.reduceLE, Int.reduceLT, Nat.reduceAdd, Nat.reduceMul, f6', hz, ff_10]) | (refine WK.condT ?_ ?_; focus (simp only [ev_tmp, ev_const, fset_apply, Nat.reduceEqDiff, ↓reduceIte, decide_true, decide_false, f6', hz, ff_10]; done)) | (refine WK.condF ?_ ?_; focus (simp only [ev_tmp, ev_const, fset_apply, Nat.reduceEqDiff, ↓reduceIte, decide_true, decide_false, f6', hz, ff_10]; done)))
        (first | refine WK.retNil ⟨Or.inr rfl, _, rfl, ?_, ?_⟩ | refine WK.skipNil ⟨Or.inl rfl, _, rfl, ?_, ?_⟩)
        · exact fun z hz => (k5.keep z (by omega)).trans (kB.keep z hz)
        · simp only [packed, fset_apply, Nat.reduceEqDiff, ↓reduceIte, List.getD_cons_zero, List.getD_cons_succ, ff_10]
          exact ⟨true, rfl, fun _ => sn.done fun z hz => hdn z hz (by simp), fun _ => rfl⟩
      rw [List.concat_eq_append] at *
      obtain ⟨p1, p2⟩ := xq
      obtain ⟨m, hm⟩ : ∃ m, m = T0.length := ⟨_, rfl⟩
      have hTl : (T0 ++ [(p1, p2)]).length = m + 1 := by simp [hm]
      rw [hTl] at htl htk f6
      have hflen : (T0.flatMap prC).length = m * 2 := by rw [hm]; exact pr_len T0
      have hq : (cs1.drop (m * 2)).take 2 = prC (p1, p2) := by
        have h1 : cs1.take ((m + 1) * 2) = T0.flatMap prC ++ prC (p1, p2) := by rw [htk, List.flatMap_append]; simp
        have h2 : (cs1.take ((m + 1) * 2)).drop (m * 2) = prC (p1, p2) := by rw [h1, List.drop_left' hflen]
        rw [List.drop_take] at h2
        rwa [show (m + 1) * 2 - m * 2 = 2 by omega] at h2
      have hT0 : cs1.take (m * 2) = T0.flatMap prC := by
        have h1 : cs1.take ((m + 1) * 2) = T0.flatMap prC ++ prC (p1, p2) := by rw [htk, List.flatMap_append]; simp
        have h2 := congrArg (List.take (m * 2)) h1
        rw [List.take_take, List.take_left' hflen, Nat.min_eq_left (by omega)] at h2
        exact h2
      have hxS : (p1, p2) ∈ S := sn.sub _ (by simp)
      obtain ⟨hp1, hp2⟩ := sn.lt _ hxS
      simp only at hp1 hp2
      have g1 : ((0 : Int) < ((m + 1 : Nat) : Int)) = True := by simp only [eq_iff_iff, iff_true]; omega
      have hTb : m + 1 ≤ 1000000 := by
        have h1 := Mini.sub_len sn.tnd sn.sub
        rw [hTl] at h1
        have h2 := sn.few
        have h3 := Nat.mul_le_mul hN hN'
        omega
      have g2 : IntKind.i64.wrap (((m + 1 : Nat) : Int) - 1) = (m : Int) := by rw [wrap_in (by omega) (by omega)]; omega
      have g3 : ((m : Int) < ((m + 1 : Nat) : Int)) = True := by simp only [eq_iff_iff, iff_true]; omega
      have g4 : (0 : Int) ≤ (m : Int) := Int.natCast_nonneg m
      have g5 : m * 2 + 2 ≤ cs1.length := by omega
      have g6 : m ≤ m + 1 := by omega
      have g7 : AM.splice [Value.int .i64 (Int.ofNat 0), .int .i64 (Int.ofNat 0)] 0 (prC (p1, p2)) = prC (p1, p2) := rfl
      have g8 : ∀ ob, hset H5 n5 ob yt = H5 yt := fun ob => hset_ne _ _ _ (by omega)
      have kF := kB.trans k5
      have hb5 := (k5.keep n0 (by omega)).trans hb3
      have hb5' := (k5.keep (n0 + 1) (by omega)).trans hb3'
      have hp1R : p1 < R.length := by have := ok.len; omega
      have hp2R : p2 < R'.length := by have := ok'.len; omega
      obtain ⟨yR, lR, dR, tyR, ownR, rfl, hyR0, eR⟩ := hR0.at hp1R
      obtain ⟨yQ, lQ, dQ, tyQ, ownQ, rfl, hyQ0, eQ⟩ := hR0'.at hp2R
      have lyR := live_lt1 hw0 (z := yR) (by rw [hyR0]; intro e; cases e)
      have lyQ := live_lt1 hw0 (z := yQ) (by rw [hyQ0]; intro e; cases e)
      have hyR := (kF.keep yR lyR).trans hyR0
      have hyQ := (kF.keep yQ lyQ).trans hyQ0
      have hx5 := (kF.keep x hxl).trans hx0
      have hx5' := (kF.keep x' hxl').trans hx0'
      have v1 : ∀ ob, hset H5 n5 ob n0 = H5 n0 := fun ob => hset_ne _ _ _ (by omega)
      have v2 : ∀ ob, hset H5 n5 ob (n0 + 1) = H5 (n0 + 1) := fun ob => hset_ne _ _ _ (by omega)
      have v3 : ∀ ob, hset H5 n5 ob yR = H5 yR := fun ob => hset_ne _ _ _ (by omega)
      have v4 : ∀ ob, hset H5 n5 ob yQ = H5 yQ := fun ob => hset_ne _ _ _ (by omega)
      have v5 : ∀ ob, hset H5 n5 ob x = H5 x := fun ob => hset_ne _ _ _ (by omega)
      have r1 : ((p1 : Int) < (R.length : Int)) = True := by simp only [eq_iff_iff, iff_true]; omega
      have r2 : ((p2 : Int) < (R'.length : Int)) = True := by simp only [eq_iff_iff, iff_true]; omega
      have r3 : (0 : Int) ≤ (p1 : Int) := Int.natCast_nonneg _
      have r4 : (0 : Int) ≤ (p2 : Int) := Int.natCast_nonneg _
      have r5 : (prC (p1, p2))[0]? = some (.int .i64 (p1 : Int)) := rfl
      have r6 : (prC (p1, p2))[1]? = some (.int .i64 (p2 : Int)) := rfl
      have r7 : ((0 : Int) < ((2 : Nat) : Int)) = True := by simp
      have r8 : ((1 : Int) < ((2 : Nat) : Int)) = True := by simp
      have no : ¬ Mini.Sim N R N' R' w p1 p2 → ¬ Mini.Sim N R N' R' w 0 0 := fun h h0 => h (sn.sim _ hxS h0)
      have kfin : ∀ {n6 : Nat} {H6 : Heap}, Kp n5 H5 n6 H6 → ∀ z, z < n0 → H6 z = H0 z := fun h z hz => (h.keep z (by omega)).trans ((k5.keep z (by omega)).trans (kB.keep z hz))
      by_cases hre : R[p1] = R'[p2]
      case neg =>
        repeat (first | apply WK.seq | apply WK.block | apply WK.skipSeq | apply WK.skipBlock | apply WK.retSeq | apply WK.retBlock | apply WK.exitSeq | apply WK.exitHere | refine WK.exitOn rfl ?_ | ((first | (refine WK.rgn ?_ ?_; kernel_rfl) | refine AtCall.now ?_); simp (config := { maxSteps := 1000000 }) only [SS, qx14, forall_const, vun, tap, tap2, tap3, tap4, tsrc, tsrc2, Int.reduceEq, Int.reduceNeg, Nat.reduceGT, Nat.reduceLT, Nat.reduceLeDiff, Nat.reduceEqDiff, ↓reduceIte, reduceCtorEq, Int.reduceToNat, Int.reduceLE, Int.reduceLT, Nat.reduceAdd, Nat.reduceMul, f2, f3, f6, g1, g2, g3, g4, g5, g6, g7, g8, hyc, hq, hb5, hb5', ac_0, ac_1, hset_at, v1, v2, v3, v4, r1, r2, r3, r4, r5, r6, r7, r8, hyR, hyQ, eR, eQ, hre, hp1R, hp2R, Int.toNat_natCast, Nat.zero_add, ff_10]) | (refine WK.condT ?_ ?_; focus (simp only [ev_tmp, ev_const, fset_apply, Nat.reduceEqDiff, ↓reduceIte, decide_true, decide_false, f2, f3, f6, g1, g2, g3, g4, g5, g6, g7, g8, hyc, hq, hb5, hb5', ac_0, ac_1, hset_at, v1, v2, v3, v4, r1, r2, r3, r4, r5, r6, r7, r8, hyR, hyQ, eR, eQ, hre, hp1R, hp2R, Int.toNat_natCast, Nat.zero_add, ff_10]; done)) | (refine WK.condF ?_ ?_; focus (simp only [ev_tmp, ev_const, fset_apply, Nat.reduceEqDiff, ↓reduceIte, decide_true, decide_false, f2, f3, f6, g1, g2, g3, g4, g5, g6, g7, g8, hyc, hq, hb5, hb5', ac_0, ac_1, hset_at, v1, v2, v3, v4, r1, r2, r3, r4, r5, r6, r7, r8, hyR, hyQ, eR, eQ, hre, hp1R, hp2R, Int.toNat_natCast, Nat.zero_add, ff_10]; done)))
        (first | refine WK.retNil ⟨Or.inr rfl, _, rfl, ?_, ?_⟩ | refine WK.skipNil ⟨Or.inl rfl, _, rfl, ?_, ?_⟩)
        · exact kfin (Kp.new n5 H5 _)
        · simp only [packed, fset_apply, Nat.reduceEqDiff, ↓reduceIte, List.getD_cons_zero, List.getD_cons_succ, ff_10]
          refine ⟨false, rfl, by simp, fun h => absurd h (no fun hs => hre ?_)⟩
          have := Mini.sim_bis.rule _ _ hs
          rwa [Mini.at1_at hp1R, Mini.at1_at hp2R] at this
      repeat (first | apply WK.seq | apply WK.block | apply WK.skipSeq | apply WK.skipBlock | apply WK.retSeq | apply WK.retBlock | apply WK.exitSeq | apply WK.exitHere | refine WK.exitOn rfl ?_ | ((first | (refine WK.rgn ?_ ?_; kernel_rfl) | refine AtCall.now ?_); simp (config := { maxSteps := 1000000 }) only [SS, qx14, forall_const, vun, tap, tap2, tap3, tap4, tsrc, tsrc2, Int.reduceEq, Int.reduceNeg, Nat.reduceGT, Nat.reduceLT, Nat.reduceLeDiff, Nat.reduceEqDiff, ↓reduceIte, reduceCtorEq, Int.reduceToNat, Int.reduceLE, Int.reduceLT, Nat.reduceAdd, Nat.reduceMul, f2, f3, f6, g1, g2, g3, g4, g5, g6, g7, g8, hyc, hq, hb5, hb5', ac_0, ac_1, hset_at, v1, v2, v3, v4, v5, r1, r2, r3, r4, r5, r6, r7, r8, hyR, hyQ, eR, eQ, hre, hp1R, hp2R, hx5, c0, hNi, Int.toNat_natCast, Nat.zero_add, ff_10]) | (refine WK.condT ?_ ?_; focus (simp only [ev_tmp, ev_const, fset_apply, Nat.reduceEqDiff, ↓reduceIte, decide_true, decide_false, f2, f3, f6, g1, g2, g3, g4, g5, g6, g7, g8, hyc, hq, hb5, hb5', ac_0, ac_1, hset_at, v1, v2, v3, v4, v5, r1, r2, r3, r4, r5, r6, r7, r8, hyR, hyQ, eR, eQ, hre, hp1R, hp2R, hx5, c0, hNi, Int.toNat_natCast, Nat.zero_add, ff_10]; done)) | (refine WK.condF ?_ ?_; focus (simp only [ev_tmp, ev_const, fset_apply, Nat.reduceEqDiff, ↓reduceIte, decide_true, decide_false, f2, f3, f6, g1, g2, g3, g4, g5, g6, g7, g8, hyc, hq, hb5, hb5', ac_0, ac_1, hset_at, v1, v2, v3, v4, v5, r1, r2, r3, r4, r5, r6, r7, r8, hyR, hyQ, eR, eQ, hre, hp1R, hp2R, hx5, c0, hNi, Int.toNat_natCast, Nat.zero_add, ff_10]; done)))
      obtain ⟨q1, d1, hq1⟩ := hr0 p1 hp1
      obtain ⟨q2, d2, hq2⟩ := hr0' p2 hp2
      have w1 : N[p1].length = w := by have := ok.row p1 hp1; rwa [Mini.getD_at [] hp1] at this
      have w2 : N'[p2].length = w := by have := ok'.row p2 hp2; rwa [Mini.getD_at [] hp2] at this
      have hat1 : ∀ j (h : j < N[p1].length), Mini.at2 N p1 j = N[p1][j] := fun j h => Mini.at2_at hp1 h
      have hat2 : ∀ j (h : j < N'[p2].length), Mini.at2 N' p2 j = N'[p2][j] := fun j h => Mini.at2_at hp2 h
      have hRul : Mini.at1 R p1 = Mini.at1 R' p2 := by rw [Mini.at1_at hp1R, Mini.at1_at hp2R, hre]
      have kX := Kp.new n5 H5 (.cells (prC (p1, p2)) 58 true)
      have hX5 := hset_at H5 n5 (.cells (prC (p1, p2)) 58 true)
      have hm6 := (hset_ne H5 n5 (.cells (prC (p1, p2)) 58 true) (x := n3) (by omega)).trans hmp
      have hy6 := (hset_ne H5 n5 (.cells (prC (p1, p2)) 58 true) (x := yt) (by omega)).trans hyc
      generalize hset H5 n5 (.cells (prC (p1, p2)) 58 true) = H6 at *
      refine WK.loop (fun kk s => ∃ (j yu : Nat) (cs2 : List Value) (S' T' : List (Nat × Nat)), j ≤ w ∧ Sn N R N' R' w S' T' ∧ (p1, p2) ∈ S' ∧ (∀ z, z ∈ S' → z ∉ T' → z ≠ (p1, p2) → Dn N R N' R' w S' z) ∧
        (∀ t, t < j → (Mini.at2 N p1 t < 0 ↔ Mini.at2 N' p2 t < 0) ∧ (0 ≤ Mini.at2 N p1 t → ((Mini.at2 N p1 t).toNat, (Mini.at2 N' p2 t).toNat) ∈ S')) ∧ 2 * (N.length * N'.length - S'.length) + T'.length ≤ 2 * (N.length * N'.length - S.length) + m ∧
        Kp n3 H3 s.n s.H ∧ n3 < yu ∧ s.H yu = .cells cs2 58 true ∧ T'.length * 2 ≤ cs2.length ∧ cs2.take (T'.length * 2) = T'.flatMap prC ∧ s.H n3 = .map (tE prV S' 0) S'.length 58 ∧ s.H n5 = .cells (prC (p1, p2)) 58 true ∧ yu ≠ n5 ∧ n5 < s.n ∧
        s.f 2 = .pointer (some ⟨n0, 0, none⟩) ∧ s.f 3 = .pointer (some ⟨n0 + 1, 0, none⟩) ∧ s.f 5 = .map (some n3) ∧ s.f 6 = .slice (some ⟨yu, 0, none⟩) T'.length T'.length ∧ s.f 7 = .pointer (some ⟨n5, 0, none⟩) ∧ s.f 67 = .int .i64 (w : Int) ∧ s.f 68 = .int .i64 (j : Int) ∧ kk = w - j) w ?_ ?_
      · refine ⟨0, yt, cs1, S, T0, Nat.zero_le _, ⟨sn.zero, sn.nd, sn.lt, fun z hz => sn.sub z (by simp [hz]), ?_, sn.sim⟩, hxS, fun z hz h1 h2 => hdn z hz (by simp [h1]; exact h2), fun t ht => absurd ht (Nat.not_lt_zero _), by rw [hm]; exact Nat.le_refl _, k5.trans kX, hyt, hy6, by omega, by rw [← hm]; exact hT0, hm6, hX5, by omega, by show n5 < n5 + 1; omega, f2, f3, f5, by rw [← hm]; rfl, rfl, rfl, rfl, rfl⟩
        have := sn.tnd
        rw [List.nodup_append] at this
        exact this.1
      rintro kk ⟨f, n7, H7⟩ ⟨j, yu, cs2, S', T', hj, sn', hxS', hdn', hpart, hmeas, k7, hyu, hyc2, htl2, htk2, hmp7, hX7, hyun, hn57, f2, f3, f5, f6, f7, f67, f68, rfl⟩ ih2
      simp only at k7 hyc2 hmp7 hX7 hn57 f2 f3 f5 f6 f7 f67 f68 ih ih2
      have hw7 := (kB.trans k7).wf hw0
      have hle7 := k7.le
      have hyu7 := live_lt1 hw7 (z := yu) (by rw [hyc2]; intro e; cases e)
      by_cases hjl : j < w
      · have hjl' : ((j : Int) < (w : Int)) = True := by simp only [eq_iff_iff, iff_true]; omega
        have h0j : (0 : Int) ≤ (j : Int) := Int.natCast_nonneg j
        have kG := kB.trans k7
        have hq1' := hq1.mono hw0 kG
        have hq2' := hq2.mono hw0 kG
        have hj1 : j < N[p1].length := by omega
        have hj2 : j < N'[p2].length := by omega
        have a1 := hat1 j hj1
        have a2 := hat2 j hj2
        have b1 := ok.lo p1 hp1 j hjl
        have b2 := ok'.lo p2 hp2 j hjl
        have b3 := ok.hi p1 hp1 j hjl
        have b4 := ok'.hi p2 hp2 j hjl
        rw [a1] at b1 b3
        rw [a2] at b2 b4
        obtain ⟨z1, m1, e1, ty1, o1, rfl, hz1, ej1⟩ := hq1'.at hj1
        obtain ⟨z2, m2, e2, ty2, o2, rfl, hz2, ej2⟩ := hq2'.at hj2
        rw [w1] at d1
        rw [w2] at d2
        generalize N[p1][j] = Y1 at *
        generalize N'[p2][j] = Y2 at *
        have hb7 := (k7.keep n0 (by omega)).trans hb3
        have hb7' := (k7.keep (n0 + 1) (by omega)).trans hb3'
        have hx7 := (kG.keep x hxl).trans hx0
        have hx7' := (kG.keep x' hxl').trans hx0'
        have s1 : ((p1 : Int) < (N.length : Int)) = True := by simp only [eq_iff_iff, iff_true]; omega
        have s2 : ((p2 : Int) < (N'.length : Int)) = True := by simp only [eq_iff_iff, iff_true]; omega
        by_cases hsg : (Y1 < 0) ↔ (Y2 < 0)
        · have hpart2 : ∀ S2 : List (Nat × Nat), (∀ z, z ∈ S' → z ∈ S2) → (0 ≤ Y1 → (Y1.toNat, Y2.toNat) ∈ S2) → ∀ t, t < j + 1 → (Mini.at2 N p1 t < 0 ↔ Mini.at2 N' p2 t < 0) ∧ (0 ≤ Mini.at2 N p1 t → ((Mini.at2 N p1 t).toNat, (Mini.at2 N' p2 t).toNat) ∈ S2) := fun S2 hsub hy t ht => by
            by_cases e : t = j
            · subst e; rw [a1, a2]; exact ⟨hsg, hy⟩
            · exact ⟨(hpart t (by omega)).1, fun h0 => hsub _ ((hpart t (by omega)).2 h0)⟩
          have kN : ∀ ob, Kp n3 H3 (n7 + 1) (hset H7 n7 ob) := fun ob => k7.trans (Kp.new _ _ _)
          have u1 : ∀ (H' : Heap) ob, hset H' n7 ob n3 = H' n3 := fun H' ob => hset_ne _ _ _ (by omega)
          have u2 : ∀ (H' : Heap) ob, hset H' n7 ob yu = H' yu := fun H' ob => hset_ne _ _ _ (by omega)
          have u3 : ∀ (H' : Heap) ob, hset H' n7 ob n5 = H' n5 := fun H' ob => hset_ne _ _ _ (by omega)
          have hwm : w ≤ maxL := by
            have := (ws.row _ (List.getElem_mem hp1)).1
            rwa [w1] at this
          by_cases c1 : Y1 < 0
          · have c2 : Y2 < 0 := hsg.1 c1
            have hne : (decide (Y1 < 0) == decide (Y2 < 0)) = true := by rw [decide_eq_true c1, decide_eq_true c2]; rfl
            have c3 : ((0 : Int) ≤ Y1) = False := by simp only [eq_iff_iff, iff_false]; omega
            repeat (first | apply WK.seq | apply WK.block | apply WK.skipSeq | apply WK.skipBlock | apply WK.retSeq | apply WK.retBlock | apply WK.exitSeq | apply WK.exitHere | refine WK.exitOn rfl ?_ | ((first | (refine WK.rgn ?_ ?_; kernel_rfl) | refine AtCall.now ?_); simp (config := { maxSteps := 1000000 }) only [SS, qx14, forall_const, vun, tap, tap2, tap3, tap4, tsrc, tsrc2, Int.reduceEq, Int.reduceNeg, Nat.reduceGT, Nat.reduceLT, Nat.reduceLeDiff, Nat.reduceEqDiff, ↓reduceIte, reduceCtorEq, Int.reduceToNat, Int.reduceLE, Int.reduceLT, Nat.reduceAdd, Nat.reduceMul, f2, f3, f5, f6, f7, f67, f68, hjl', hjl, h0j, hb7, hb7', ac_0, ac_1, hx7, hx7', d1, d2, s1, s2, r3, r4, r5, r6, r7, r8, hX7, hz1, ej1, hz2, ej2, hset_at, hne, c3, u3, Int.toNat_natCast, Nat.zero_add, ff_10]) | (refine WK.condT ?_ ?_; focus (simp only [ev_tmp, ev_const, fset_apply, Nat.reduceEqDiff, ↓reduceIte, decide_true, decide_false, f2, f3, f5, f6, f7, f67, f68, hjl', hjl, h0j, hb7, hb7', ac_0, ac_1, hx7, hx7', d1, d2, s1, s2, r3, r4, r5, r6, r7, r8, hX7, hz1, ej1, hz2, ej2, hset_at, hne, c3, u3, Int.toNat_natCast, Nat.zero_add, ff_10]; done)) | (refine WK.condF ?_ ?_; focus (simp only [ev_tmp, ev_const, fset_apply, Nat.reduceEqDiff, ↓reduceIte, decide_true, decide_false, f2, f3, f5, f6, f7, f67, f68, hjl', hjl, h0j, hb7, hb7', ac_0, ac_1, hx7, hx7', d1, d2, s1, s2, r3, r4, r5, r6, r7, r8, hX7, hz1, ej1, hz2, ej2, hset_at, hne, c3, u3, Int.toNat_natCast, Nat.zero_add, ff_10]; done)))
            refine ih2 (w - (j + 1)) (by omega) _ ?_
            refine ⟨j + 1, yu, cs2, S', T', hjl, sn', hxS', hdn', hpart2 S' (fun z h => h) (fun h => by omega), hmeas, kN _, hyu, (u2 _ _).trans hyc2, htl2, htk2, (u1 _ _).trans hmp7, (u3 _ _).trans hX7, hyun, by show n5 < n7 + 1; omega, f2, f3, f5, f6, f7, f67, ?_, rfl⟩
            simp only [packed, fset_apply, Nat.reduceEqDiff, ↓reduceIte, List.getD_cons_zero, List.getD_cons_succ, wrap_up hjl hwm, ff_10]
          · have c2 : ¬ Y2 < 0 := fun h => c1 (hsg.2 h)
            obtain ⟨y1, rfl⟩ : ∃ y1 : Nat, Y1 = (y1 : Int) := ⟨Y1.toNat, by omega⟩
            obtain ⟨y2, rfl⟩ : ∃ y2 : Nat, Y2 = (y2 : Int) := ⟨Y2.toNat, by omega⟩
            have hne : (decide ((y1 : Int) < 0) == decide ((y2 : Int) < 0)) = true := by rw [decide_eq_false c1, decide_eq_false c2]; rfl
            have c3 : ((0 : Int) ≤ (y1 : Int)) = True := by simp
            simp only [Int.toNat_natCast] at hpart2
            have gd : goodP (y1, y2) := ⟨by omega, by omega⟩
            have gds : ∀ a, a ∈ S' → goodP a := fun a ha => by obtain ⟨l1, l2⟩ := sn'.lt a ha; exact ⟨by omega, by omega⟩
            have tk2 : List.take 2 (List.drop 0 [Value.int .i64 (y1 : Int), .int .i64 (y2 : Int)]) = [Value.int .i64 (y1 : Int), .int .i64 (y2 : Int)] := rfl
            by_cases hin : (y1, y2) ∈ S'
            · have hhas : ∀ ob, alookup Tryz.prog 59 (hset H7 n7 ob) (.map (some n3)) (.agg #[.int .i64 (y1 : Int), .int .i64 (y2 : Int)]) false = some { v := .bool true, rd := [n3] } := fun ob => (gkp.has (k := (y1, y2)) gd gds und_mp zero_bool ((u1 _ ob).trans hmp7)).trans (by simp [hin])
              repeat (first | apply WK.seq | apply WK.block | apply WK.skipSeq | apply WK.skipBlock | apply WK.retSeq | apply WK.retBlock | apply WK.exitSeq | apply WK.exitHere | refine WK.exitOn rfl ?_ | ((first | (refine WK.rgn ?_ ?_; kernel_rfl) | refine AtCall.now ?_); simp (config := { maxSteps := 1000000 }) only [SS, qx14, forall_const, vun, tap, tap2, tap3, tap4, tsrc, tsrc2, Int.reduceEq, Int.reduceNeg, Nat.reduceGT, Nat.reduceLT, Nat.reduceLeDiff, Nat.reduceEqDiff, ↓reduceIte, reduceCtorEq, Int.reduceToNat, Int.reduceLE, Int.reduceLT, Nat.reduceAdd, Nat.reduceMul, f2, f3, f5, f6, f7, f67, f68, hjl', hjl, h0j, hb7, hb7', ac_0, ac_1, hx7, hx7', d1, d2, s1, s2, r3, r4, r5, r6, r7, r8, hX7, hz1, ej1, hz2, ej2, hset_at, hne, c3, u3, aop_look, hhas, hin, tk2, decide_true, Int.toNat_natCast, Nat.zero_add, ff_10]) | (refine WK.condT ?_ ?_; focus (simp only [ev_tmp, ev_const, fset_apply, Nat.reduceEqDiff, ↓reduceIte, decide_true, decide_false, f2, f3, f5, f6, f7, f67, f68, hjl', hjl, h0j, hb7, hb7', ac_0, ac_1, hx7, hx7', d1, d2, s1, s2, r3, r4, r5, r6, r7, r8, hX7, hz1, ej1, hz2, ej2, hset_at, hne, c3, u3, aop_look, hhas, hin, tk2, decide_true, Int.toNat_natCast, Nat.zero_add, ff_10]; done)) | (refine WK.condF ?_ ?_; focus (simp only [ev_tmp, ev_const, fset_apply, Nat.reduceEqDiff, ↓reduceIte, decide_true, decide_false, f2, f3, f5, f6, f7, f67, f68, hjl', hjl, h0j, hb7, hb7', ac_0, ac_1, hx7, hx7', d1, d2, s1, s2, r3, r4, r5, r6, r7, r8, hX7, hz1, ej1, hz2, ej2, hset_at, hne, c3, u3, aop_look, hhas, hin, tk2, decide_true, Int.toNat_natCast, Nat.zero_add, ff_10]; done)))
              refine ih2 (w - (j + 1)) (by omega) _ ?_
              refine ⟨j + 1, yu, cs2, S', T', hjl, sn', hxS', hdn', hpart2 S' (fun z h => h) (fun _ => hin), hmeas, kN _, hyu, (u2 _ _).trans hyc2, htl2, htk2, (u1 _ _).trans hmp7, (u3 _ _).trans hX7, hyun, by show n5 < n7 + 1; omega, f2, f3, f5, f6, f7, f67, ?_, rfl⟩
              simp only [packed, fset_apply, Nat.reduceEqDiff, ↓reduceIte, List.getD_cons_zero, List.getD_cons_succ, wrap_up hjl hwm, ff_10]
            · have hhas : ∀ ob, alookup Tryz.prog 59 (hset H7 n7 ob) (.map (some n3)) (.agg #[.int .i64 (y1 : Int), .int .i64 (y2 : Int)]) false = some { v := .bool false, rd := [n3] } := fun ob => (gkp.has (k := (y1, y2)) gd gds und_mp zero_bool ((u1 _ ob).trans hmp7)).trans (by simp [hin])
              have hput : ∀ ob, amapset Tryz.prog 59 (hset H7 n7 ob) (.map (some n3)) (.agg #[.int .i64 (y1 : Int), .int .i64 (y2 : Int)]) (.bool true) = some { v := undef, wr := some (n3, .map (tE prV (S' ++ [(y1, y2)]) 0) (S' ++ [(y1, y2)]).length 58) } := fun ob =>
                gkp.tput gd gds hin und_mp ((u1 _ ob).trans hmp7)
              have hTS : T'.length ≤ S'.length := Mini.sub_len sn'.tnd sn'.sub
              have hfew := sn'.few
              have hbg : T'.length + 1 ≤ bigN := by have := Nat.mul_le_mul hN hN'; unfold bigN; omega
              have hct : [n7 + 1].contains yu = false := by simp; omega
              have x1 : ∀ (H' : Heap) ob, hset H' n3 ob n7 = H' n7 := fun H' ob => hset_ne _ _ _ (by omega)
              have x2 : ∀ (H' : Heap) ob, hset H' (n7 + 1) ob yu = H' yu := fun H' ob => hset_ne _ _ _ (by omega)
              have x3 : ∀ (H' : Heap) ob, hset H' n3 ob yu = H' yu := fun H' ob => hset_ne _ _ _ (by omega)
              repeat (first | apply WK.seq | apply WK.block | apply WK.skipSeq | apply WK.skipBlock | apply WK.retSeq | apply WK.retBlock | apply WK.exitSeq | apply WK.exitHere | refine WK.exitOn rfl ?_ | ((first | (refine WK.rgn ?_ ?_; kernel_rfl) | refine AtCall.now ?_); simp (config := { maxSteps := 1000000 }) only [SS, qx14, forall_const, vun, tap, tap2, tap3, tap4, tsrc, tsrc2, Int.reduceEq, Int.reduceNeg, Nat.reduceGT, Nat.reduceLT, Nat.reduceLeDiff, Nat.reduceEqDiff, ↓reduceIte, reduceCtorEq, Int.reduceToNat, Int.reduceLE, Int.reduceLT, Nat.reduceAdd, Nat.reduceMul, f2, f3, f5, f6, f7, f67, f68, hjl', hjl, h0j, hb7, hb7', ac_0, ac_1, hx7, hx7', d1, d2, s1, s2, r3, r4, r5, r6, r7, r8, hX7, hz1, ej1, hz2, ej2, hset_at, hne, c3, u3, u2, x1, x2, x3, aop_look, aop_mapset, hhas, hput, hin, tk2, hyc2, htl2, hbg, hct, decide_false, Int.toNat_natCast, Nat.zero_add, ff_10]) | (refine WK.condT ?_ ?_; focus (simp only [ev_tmp, ev_const, fset_apply, Nat.reduceEqDiff, ↓reduceIte, decide_true, decide_false, f2, f3, f5, f6, f7, f67, f68, hjl', hjl, h0j, hb7, hb7', ac_0, ac_1, hx7, hx7', d1, d2, s1, s2, r3, r4, r5, r6, r7, r8, hX7, hz1, ej1, hz2, ej2, hset_at, hne, c3, u3, u2, x1, x2, x3, aop_look, aop_mapset, hhas, hput, hin, tk2, hyc2, htl2, hbg, hct, decide_false, Int.toNat_natCast, Nat.zero_add, ff_10]; done)) | (refine WK.condF ?_ ?_; focus (simp only [ev_tmp, ev_const, fset_apply, Nat.reduceEqDiff, ↓reduceIte, decide_true, decide_false, f2, f3, f5, f6, f7, f67, f68, hjl', hjl, h0j, hb7, hb7', ac_0, ac_1, hx7, hx7', d1, d2, s1, s2, r3, r4, r5, r6, r7, r8, hX7, hz1, ej1, hz2, ej2, hset_at, hne, c3, u3, u2, x1, x2, x3, aop_look, aop_mapset, hhas, hput, hin, tk2, hyc2, htl2, hbg, hct, decide_false, Int.toNat_natCast, Nat.zero_add, ff_10]; done)))
              have htk3 : cs2.take (T'.length * 2) ++ [Value.int .i64 (y1 : Int), .int .i64 (y2 : Int)] = (T' ++ [(y1, y2)]).flatMap prC := by rw [htk2, List.flatMap_append]; rfl
              have k1 := ((((k7.trans (Kp.new n7 H7 (.cells [.int .i64 (y1 : Int), .int .i64 (y2 : Int)] 58 true))).set (x := n3) (.map (tE prV (S' ++ [(y1, y2)]) 0) (S' ++ [(y1, y2)]).length 58) (Nat.le_refl _) (by omega)).trans (Kp.new (n7 + 1) _ (.cells [.int .i64 (y1 : Int), .int .i64 (y2 : Int)] 58 true))).set (x := yu) .dead (by omega) (by omega)).trans (Kp.new (n7 + 1 + 1) _ (.cells (List.take (T'.length * 2) (List.drop 0 cs2) ++ [Value.int .i64 (y1 : Int), .int .i64 (y2 : Int)]) 58 true))
              have hnd : (S' ++ [(y1, y2)]).Nodup := by
                rw [List.nodup_append]
                refine ⟨sn'.nd, by simp, fun a ha b hb e => hin ?_⟩
                have e2 : b = (y1, y2) := by simpa using hb
                rw [← e2, ← e]; exact ha
              have hnd2 : (T' ++ [(y1, y2)]).Nodup := by
                rw [List.nodup_append]
                refine ⟨sn'.tnd, by simp, fun a ha b hb e => hin ?_⟩
                have e2 : b = (y1, y2) := by simpa using hb
                rw [← e2, ← e]; exact sn'.sub a ha
              have hlt2 : ∀ z, z ∈ S' ++ [(y1, y2)] → z.1 < N.length ∧ z.2 < N'.length := fun z hz => by
                rcases List.mem_append.1 hz with h | h
                · exact sn'.lt z h
                · have : z = (y1, y2) := by simpa using h
                  rw [this]; exact ⟨by show y1 < _; omega, by show y2 < _; omega⟩
              have hsm2 : ∀ z, z ∈ S' ++ [(y1, y2)] → Mini.Sim N R N' R' w 0 0 → Mini.Sim N R N' R' w z.1 z.2 := fun z hz h => by
                rcases List.mem_append.1 hz with h' | h'
                · exact sn'.sim z h' h
                · have e : z = (y1, y2) := by simpa using h'
                  have := Mini.sim_bis.go _ _ (sn'.sim _ hxS' h) j hjl (by rw [a1]; omega)
                  rw [a1, a2] at this
                  rw [e]; simpa using this
              have hlt1 : S'.length + 1 ≤ N.length * N'.length := by
                have sx : Sn N R N' R' w (S' ++ [(y1, y2)]) [] := ⟨by simp [sn'.zero], hnd, hlt2, fun z hz => (by cases hz), List.nodup_nil, hsm2⟩
                have := sx.few; simpa using this
              refine ih2 (w - (j + 1)) (by omega) _ ?_
              refine ⟨j + 1, n7 + 1 + 1, _, S' ++ [(y1, y2)], T' ++ [(y1, y2)], hjl, ⟨by simp [sn'.zero], hnd, hlt2, fun z hz => ?_, hnd2, hsm2⟩, by simp [hxS'], fun z hz h1 h2 => ?_, hpart2 _ (fun z h => by simp [h]) (fun _ => by simp), ?_, k1, by omega, hset_at _ _ _, ?_, ?_, ?_, ?_, by omega, by show n5 < n7 + 1 + 1 + 1; omega, f2, f3, f5, ?_, f7, f67, ?_, rfl⟩
              · rcases List.mem_append.1 hz with h | h
                · exact List.mem_append_left _ (sn'.sub z h)
                · exact List.mem_append_right _ h
              · have hzn : z ≠ (y1, y2) := fun e => h1 (by simp [e])
                have hzS : z ∈ S' := by
                  rcases List.mem_append.1 hz with h | h
                  · exact h
                  · exact absurd (by simpa using h) hzn
                exact (hdn' z hzS (fun h => h1 (by simp [h])) h2).mono fun q hq => by simp [hq]
              · simp only [List.length_append, List.length_singleton]; omega
              · simp only [List.length_append, List.length_singleton, List.length_take, List.drop_zero, List.length_cons, List.length_nil]; omega
              · rw [List.drop_zero, htk3, ← pr_len, List.take_length]
              · exact (hset_ne _ _ _ (by omega)).trans ((hset_ne _ _ _ (by omega)).trans ((hset_ne _ _ _ (by omega)).trans (hset_at _ _ _)))
              · exact (hset_ne _ _ _ (by omega)).trans ((hset_ne _ _ _ (Ne.symm hyun)).trans ((hset_ne _ _ _ (by omega)).trans ((hset_ne _ _ _ (by omega)).trans ((u3 _ _).trans hX7))))
              · simp only [packed, fset_apply, Nat.reduceEqDiff, ↓reduceIte, List.getD_cons_zero, List.getD_cons_succ, List.length_append, List.length_singleton, ff_10]
              · simp only [packed, fset_apply, Nat.reduceEqDiff, ↓reduceIte, List.getD_cons_zero, List.getD_cons_succ, wrap_up hjl hwm, ff_10]
        · have hne : (decide (Y1 < 0) == decide (Y2 < 0)) = false := by
            rw [beq_eq_false_iff_ne]
            exact fun e => hsg (decide_eq_decide.1 e)
          repeat (first | apply WK.seq | apply WK.block | apply WK.skipSeq | apply WK.skipBlock | apply WK.retSeq | apply WK.retBlock | apply WK.exitSeq | apply WK.exitHere | refine WK.exitOn rfl ?_ | ((first | (refine WK.rgn ?_ ?_; kernel_rfl) | refine AtCall.now ?_); simp (config := { maxSteps := 1000000 }) only [SS, qx14, forall_const, vun, tap, tap2, tap3, tap4, tsrc, tsrc2, Int.reduceEq, Int.reduceNeg, Nat.reduceGT, Nat.reduceLT, Nat.reduceLeDiff, Nat.reduceEqDiff, ↓reduceIte, reduceCtorEq, Int.reduceToNat, Int.reduceLE, Int.reduceLT, Nat.reduceAdd, Nat.reduceMul, f2, f3, f7, f67, f68, hjl', hjl, h0j, hb7, hb7', ac_0, ac_1, hx7, hx7', d1, d2, s1, s2, r3, r4, r5, r6, r7, r8, hX7, hz1, ej1, hz2, ej2, hset_at, hne, Int.toNat_natCast, Nat.zero_add, ff_10]) | (refine WK.condT ?_ ?_; focus (simp only [ev_tmp, ev_const, fset_apply, Nat.reduceEqDiff, ↓reduceIte, decide_true, decide_false, f2, f3, f7, f67, f68, hjl', hjl, h0j, hb7, hb7', ac_0, ac_1, hx7, hx7', d1, d2, s1, s2, r3, r4, r5, r6, r7, r8, hX7, hz1, ej1, hz2, ej2, hset_at, hne, Int.toNat_natCast, Nat.zero_add, ff_10]; done)) | (refine WK.condF ?_ ?_; focus (simp only [ev_tmp, ev_const, fset_apply, Nat.reduceEqDiff, ↓reduceIte, decide_true, decide_false, f2, f3, f7, f67, f68, hjl', hjl, h0j, hb7, hb7', ac_0, ac_1, hx7, hx7', d1, d2, s1, s2, r3, r4, r5, r6, r7, r8, hX7, hz1, ej1, hz2, ej2, hset_at, hne, Int.toNat_natCast, Nat.zero_add, ff_10]; done)))
          (first | refine WK.retNil ⟨Or.inr rfl, _, rfl, ?_, ?_⟩ | refine WK.skipNil ⟨Or.inl rfl, _, rfl, ?_, ?_⟩)
          · exact fun z hz => (hset_ne _ _ _ (by omega)).trans ((k7.keep z (by omega)).trans (kB.keep z hz))
          · simp only [packed, fset_apply, Nat.reduceEqDiff, ↓reduceIte, List.getD_cons_zero, List.getD_cons_succ, ff_10]
            refine ⟨false, rfl, by simp, fun h => absurd h (no fun hs => hsg ?_)⟩
            have := Mini.sim_bis.sgn _ _ hs j hjl
            rwa [a1, a2] at this
      · have hjl' : ((j : Int) < (w : Int)) = False := by simp only [eq_iff_iff, iff_false]; omega
        have hje : j = w := by omega
        subst hje
        repeat (first | apply WK.seq | apply WK.block | apply WK.skipSeq | apply WK.skipBlock | apply WK.retSeq | apply WK.retBlock | apply WK.exitSeq | apply WK.exitHere | refine WK.exitOn rfl ?_ | ((first | (refine WK.rgn ?_ ?_; kernel_rfl) | refine AtCall.now ?_); simp (config := { maxSteps := 1000000 }) only [SS, qx14, forall_const, vun, tap, tap2, tap3, tap4, tsrc, tsrc2, Int.reduceEq, Int.reduceNeg, Nat.reduceGT, Nat.reduceLT, Nat.reduceLeDiff, Nat.reduceEqDiff, ↓reduceIte, reduceCtorEq, Int.reduceToNat, Int.reduceLE, Int.reduceLT, Nat.reduceAdd, Nat.reduceMul, f67, f68, hjl', ff_10]) | (refine WK.condT ?_ ?_; focus (simp only [ev_tmp, ev_const, fset_apply, Nat.reduceEqDiff, ↓reduceIte, decide_true, decide_false, f67, f68, hjl', ff_10]; done)) | (refine WK.condF ?_ ?_; focus (simp only [ev_tmp, ev_const, fset_apply, Nat.reduceEqDiff, ↓reduceIte, decide_true, decide_false, f67, f68, hjl', ff_10]; done)))
        refine ih (2 * (N.length * N'.length - S'.length) + T'.length) (by rw [hTl]; omega) _ ?_
        refine ⟨yu, cs2, S', T', sn', fun z hz hzT => ?_, k7, hyu, hyc2, htl2, htk2, hmp7, f2, f3, f5, f6, rfl⟩
        by_cases e : z = (p1, p2)
        · subst e
          exact ⟨hRul, hpart⟩
        · exact hdn' z hz hzT e
end Go.Proofs.YtjlgpanihjnaeaaGreatDoor
