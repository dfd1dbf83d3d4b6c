/- A part of a proof. Its conditions: none. -/
import Derived.Test.YtpdlmpbhohinpaaAmCLfCount
set_option linter.all false
namespace Go.Proofs.Ytpdlmpbhohinpaa
open Go.AM Go.RowKit
set_option maxRecDepth 100000
def SR (H : Heap) (cs : List Value) (sets : List (List It)) : Prop := ∀ i (hi : i < sets.length), ∃ pp, cs[i * 2]? = some (.slice pp sets[i].length sets[i].length) ∧ LR H (.slice pp sets[i].length sets[i].length) sets[i]
theorem SR.rk {H H' : Heap} {cs : List Value} {sets : List (List It)} (h : SR H cs sets) {P : Nat → Prop} (k : RC P H H') : SR H' cs sets := fun i hi => by
  obtain ⟨pp, a, b⟩ := h i hi
  exact ⟨pp, a, b.rk k.1⟩
theorem SC.lr {H : Heap} {N k : Nat} {cs : List Value} {l : List It} (h : SC H N cs k l) : ∃ pp, cs[k]? = some (.slice pp l.length l.length) ∧ LR H (.slice pp l.length l.length) l := by
  obtain ⟨v, m, h0, _, _, _, h1⟩ := h
  obtain ⟨pp, rfl⟩ := h1.lr.slice
  exact ⟨pp, h0, h1.lr⟩
theorem nx_sym {S : Heap} {N : Nat} {pr pg pe pc : Option Addr} {g : Gram} {gd em : List Bool} {co : List Nat} (st : Stat S N pr pg pe pc g gd em co) {x : It} (hx : x.1 < g.rules.length) {s : Int} (h : nx g x = some s) : inI s ∧ s < g.vars.length := by
  unfold nx at h
  rw [rgt_at hx] at h
  exact st.sym _ (List.getElem_mem hx) _ (List.mem_of_getElem? h)
set_option maxHeartbeats 8000000 in
theorem close_gives {S H : Heap} {N o n y at_ c : Nat} {pt pv pr pg pe pc : Option Addr} {g : Gram} {gd em : List Bool} {co : List Nat} {wv : Value} {cs : List Value} {l0 : List It} {sets : List (List It)} (st : Stat S N pr pg pe pc g gd em co) (hw : WF n H) (hS : Sub S H) (hN : N ≤ n) (hoN : o < N) (hyN : N ≤ y)
    (ho : H o = .cells (chC pt pv pr pg pe pc g gd em co (.slice (some ⟨y, 0, none⟩) (at_ + 1) c) wv) 62 true) (hy : H y = .cells cs 69 true) (hs : SC H N cs (at_ * 2) l0) (hl : okL g at_ l0) (ha : at_ ≤ 4000) (hsl : sets.length = at_) (hsr : SR H cs sets) (hso : ∀ i s, sets[i]? = some s → okL g i s) :
    GivesX Try.prog (fun z => N ≤ z) 43 [.pointer (some ⟨o, 0, none⟩), .int .i64 (at_ : Nat)] n H fun _ _ H' => Grown N y (at_ * 2) cs H H' (closeL g gd em sets at_ l0) := by
  refine GivesX.of orders ok43 (Nat.le_of_ble_eq_true rfl) ?_
  have hon : o < n := by omega
  have hyn : y < n := Classical.byContradiction fun hc => by rw [hw y (by omega)] at hy; cases hy
  have hat : at_ < at_ + 1 := Nat.lt_succ_self _
  repeat (first | refine qqn rfl ?_)
  repeat (first | refine qqn rfl ?_ | ((first | (refine WK.rgn ?_ ?_; kernel_rfl) | refine AtCall.now ?_); simp (config := {maxSteps:=999999}) only [SS, qx13, forall_const, vun, Int.reduceEq, Int.reduceNeg, Nat.reduceGT, Nat.reduceLT, Nat.reduceLeDiff, Nat.reduceEqDiff, ↓reduceIte, reduceCtorEq, Int.reduceToNat, Int.reduceLE, Int.reduceLT, Nat.reduceAdd, Nat.reduceMul, ho, ch6, aop_nc, tnc, hat, ff_43]) | (refine qqj ?_ ?_; focus (simp only [qqs, Nat.reduceEqDiff, ↓reduceIte, ho, ch6, aop_nc, tnc, hat, ff_43]; done)) | (refine qqk ?_ ?_; focus (simp only [qqs, Nat.reduceEqDiff, ↓reduceIte, ho, ch6, aop_nc, tnc, hat, ff_43]; done)))
  have hB := bndI_le (at_ := at_) st.rl st.r8
  have hrl := st.rl
  refine WK.loop (fun k2 s => ∃ (l : List It) (i : Nat), Kx (fun z => N ≤ z) n H s.n s.H ∧ s.f 0 = .pointer (some ⟨o, 0, none⟩) ∧ s.f 1 = .int .i64 (at_ : Nat) ∧ s.f 4 = .pointer (some ⟨y, at_ * 2, none⟩) ∧ s.f 5 = .int .i64 (i : Nat) ∧ Grown N y (at_ * 2) cs H s.H l ∧ okL g at_ l ∧ i ≤ bndI g at_ ∧ closeC g gd em sets at_ (bndI g at_ - i) l i = closeL g gd em sets at_ l0 ∧ k2 = bndI g at_ - i) (bndI g at_) ?_ ?_
  · exact ⟨l0, 0, .refl _ _ _, rfl, rfl, rfl, rfl, .refl hy hs, hl, Nat.zero_le _, rfl, rfl⟩
  rintro kk ⟨f, n2, H2⟩ ⟨l, i, kx, f0, f1, f4, f5, hg2, hl2, hiB, hcl, rfl⟩ ih
  simp only at f0 f1 f4 f5 kx hg2 ih
  have hle := kx.le
  have hw2 := kx.wf hw
  have hS2 := hS.kx st.wf kx hN
  have ho2 := (kx.keep o hon (by omega)).trans ho
  have hlB := hl2.len
  obtain ⟨rk2, v2, hy2, hs2⟩ := id hg2
  obtain ⟨pp, hpp, hlr⟩ := hs2.lr
  by_cases hlt : i < l.length
  · obtain ⟨zp, op, rfl, hzp, e3, e4⟩ := hlr.at hlt
    have hk3 := Kp.new n2 H2 (.cells (itC l[i]) 74 true)
    have hb3 := hset_at H2 n2 (.cells (itC l[i]) 74 true)
    have ho3 := (hk3.keep o (by omega)).trans ho2
    have hS3 := hS2.kp hw2 hk3
    have hw3 := hk3.wf hw2
    have hg3 := hg2.kp hw2 hk3
    have kx3 := kx.trans hk3.kx
    generalize hE : hset H2 n2 (.cells (itC l[i]) 74 true) = H3 at *
    repeat (first | refine qqn rfl ?_ | ((first | (refine WK.rgn ?_ ?_; kernel_rfl) | refine AtCall.now ?_); simp (config := {maxSteps:=999999}) only [SS, qx13, forall_const, vun, Int.reduceEq, Int.reduceNeg, Nat.reduceGT, Nat.reduceLT, Nat.reduceLeDiff, Nat.reduceEqDiff, ↓reduceIte, reduceCtorEq, Int.reduceToNat, Int.reduceLE, Int.reduceLT, Nat.reduceAdd, Nat.reduceMul, f0, f1, f4, f5, hlt, hy2, hpp, hzp, e3, e4, itvc, itone, itsp, itle, ittk, itag, hb3, hE, aop_nc, tnc, ff_43]) | (refine qqj ?_ ?_; focus (simp only [qqs, Nat.reduceEqDiff, ↓reduceIte, f0, f1, f4, f5, hlt, hy2, hpp, hzp, e3, e4, itvc, itone, itsp, itle, ittk, itag, hb3, hE, aop_nc, tnc, ff_43]; done)) | (refine qqk ?_ ?_; focus (simp only [qqs, Nat.reduceEqDiff, ↓reduceIte, f0, f1, f4, f5, hlt, hy2, hpp, hzp, e3, e4, itvc, itone, itsp, itle, ittk, itag, hb3, hE, aop_nc, tnc, ff_43]; done)))
    obtain ⟨hq1, hq2, hq3⟩ := hl2.ok _ (List.getElem_mem hlt)
    have hsm : l[i].1 < 24 ∧ l[i].2.1 ≤ 8 ∧ l[i].2.2 ≤ 4000 := okI.small ⟨hq1, hq2, hq3⟩ st.rl st.r8 ha
    have hsm1 : l[i].2.1 ≤ 1000 := by omega
    have hcl' : closeC g gd em sets at_ (bndI g at_ - (i + 1)) (stepC g gd em sets at_ l l[i]) (i + 1) = closeL g gd em sets at_ l0 := by
      rw [← hcl, show bndI g at_ - i = (bndI g at_ - (i + 1)) + 1 by omega]
      show _ = (match l[i]? with | none => l | some x => closeC g gd em sets at_ (bndI g at_ - (i + 1)) (stepC g gd em sets at_ l x) (i + 1))
      rw [List.getElem?_eq_getElem hlt]
    have hok' : okL g at_ (stepC g gd em sets at_ l l[i]) := stepC_ok (fun i s _ h => hso i s h) hl2 ⟨hq1, hq2, hq3⟩
    have hwi : IntKind.wrap .i64 ((i : Int) + 1) = ((i + 1 : Nat) : Int) := by rw [wrap_in (by omega) (by omega)]; rfl
    refine AtCall.by (next_gives st hw3 hS3 ho3 hq1 hq2) ?_
    rintro w n4 H4 hk4 rfl
    have hb4 := (hk4.keep n2 (by omega)).trans hb3
    have hg4 := hg3.kp hw3 hk4
    have kx4 := kx3.trans hk4.kx
    have hw4 := hk4.wf hw3
    have hN4 : N ≤ n4 := by have := hk4.le; omega
    have hS4 := hS3.kp hw3 hk4
    have ho4 := (hk4.keep o (by omega)).trans ho3
    have hy4 := (hk4.keep y (by omega)).trans ((hk3.keep y (by omega)).trans hy2)
    cases hn : nx g l[i] with
    | none =>
      have hst : stepC g gd em sets at_ l l[i] = doneL g (lft g l[i].1) (if l[i].2.2 = at_ then l else sets.getD l[i].2.2 []) l := by unfold stepC; rw [hn]
      simp (config := {maxSteps:=999999}) only [SS, qx13, forall_const, vun, Int.reduceEq, Int.reduceNeg, Nat.reduceGT, Nat.reduceLT, Nat.reduceLeDiff, Nat.reduceEqDiff, ↓reduceIte, reduceCtorEq, Int.reduceToNat, Int.reduceLE, Int.reduceLT, Nat.reduceAdd, Nat.reduceMul, ff_43]
      repeat (first | refine qqn rfl ?_ | ((first | (refine WK.rgn ?_ ?_; kernel_rfl) | refine AtCall.now ?_); simp (config := {maxSteps:=999999}) only [SS, qx13, forall_const, vun, Int.reduceEq, Int.reduceNeg, Nat.reduceGT, Nat.reduceLT, Nat.reduceLeDiff, Nat.reduceEqDiff, ↓reduceIte, reduceCtorEq, Int.reduceToNat, Int.reduceLE, Int.reduceLT, Nat.reduceAdd, Nat.reduceMul, f0, f1, f4, f5, Option.isSome_none, hb4, it0, it1, it2, itle, ittk, itag, ff_43]) | (refine qqj ?_ ?_; focus (simp only [qqs, Nat.reduceEqDiff, ↓reduceIte, f0, f1, f4, f5, Option.isSome_none, hb4, it0, it1, it2, itle, ittk, itag, ff_43]; done)) | (refine qqk ?_ ?_; focus (simp only [qqs, Nat.reduceEqDiff, ↓reduceIte, f0, f1, f4, f5, Option.isSome_none, hb4, it0, it1, it2, itle, ittk, itag, ff_43]; done)))
      have hps : ∃ pq, (cs.set (at_ * 2) v2)[l[i].2.2 * 2]? = some (.slice pq (if l[i].2.2 = at_ then l else sets.getD l[i].2.2 []).length (if l[i].2.2 = at_ then l else sets.getD l[i].2.2 []).length) ∧ LR H4 (.slice pq (if l[i].2.2 = at_ then l else sets.getD l[i].2.2 []).length (if l[i].2.2 = at_ then l else sets.getD l[i].2.2 []).length) (if l[i].2.2 = at_ then l else sets.getD l[i].2.2 []) ∧ okL g at_ (if l[i].2.2 = at_ then l else sets.getD l[i].2.2 []) := by
        have hr4 : RC (· = y) H H4 := hg4.1
        by_cases hia : l[i].2.2 = at_
        · simp only [hia, if_true]
          exact ⟨_, hpp, hlr.rk ((hk3.rk hw2).trans (hk4.rk hw3)), hl2⟩
        · simp only [hia, if_false]
          have hlt2 : l[i].2.2 < sets.length := by omega
          obtain ⟨pq, c1, c2⟩ := hsr _ hlt2
          have hgd : sets.getD l[i].2.2 [] = sets[l[i].2.2] := by rw [List.getD_eq_getElem?_getD, List.getElem?_eq_getElem hlt2]; rfl
          rw [hgd]
          refine ⟨pq, ?_, c2.rk hr4.1, (hso _ _ (List.getElem?_eq_getElem hlt2)).up (by omega)⟩
          rw [List.getElem?_set, if_neg (by omega)]
          exact c1
      obtain ⟨pq, hp1, hp2, hp3⟩ := hps
      refine AtCall.byX (done_gives (m := at_ + 1) (c := c) st hw4 hS4 hN4 hoN hyN ho4 hg4 hl2 ha ⟨hq1, hq2, hq3⟩ (by omega) (by omega) hy4 hp1 hp2 hp3.ok (small_okL hp3 st.rl st.r8 ha)) ?_
      rintro w n5 H5 kx5 ⟨_, hg5⟩
      simp (config := {maxSteps:=999999}) only [SS, qx13, forall_const, vun, Int.reduceEq, Int.reduceNeg, Nat.reduceGT, Nat.reduceLT, Nat.reduceLeDiff, Nat.reduceEqDiff, ↓reduceIte, reduceCtorEq, Int.reduceToNat, Int.reduceLE, Int.reduceLT, Nat.reduceAdd, Nat.reduceMul, ff_43]
      repeat (first | refine qqn rfl ?_ | ((first | (refine WK.rgn ?_ ?_; kernel_rfl) | refine AtCall.now ?_); simp (config := {maxSteps:=999999}) only [SS, qx13, forall_const, vun, Int.reduceEq, Int.reduceNeg, Nat.reduceGT, Nat.reduceLT, Nat.reduceLeDiff, Nat.reduceEqDiff, ↓reduceIte, reduceCtorEq, Int.reduceToNat, Int.reduceLE, Int.reduceLT, Nat.reduceAdd, Nat.reduceMul, f5, hwi, ff_43]) | (refine qqj ?_ ?_; focus (simp only [qqs, Nat.reduceEqDiff, ↓reduceIte, f5, hwi, ff_43]; done)) | (refine qqk ?_ ?_; focus (simp only [qqs, Nat.reduceEqDiff, ↓reduceIte, f5, hwi, ff_43]; done)))
      refine ih (bndI g at_ - (i + 1)) (by omega) _ ⟨_, i + 1, kx4.trans kx5, f0, f1, f4, rfl, ?_, hok', by omega, hcl', rfl⟩
      rw [hst]; exact hg5
    | some y0 =>
      obtain ⟨hy0, hy1⟩ := nx_sym st hq1 hn
      simp (config := {maxSteps:=999999}) only [SS, qx13, forall_const, vun, Int.reduceEq, Int.reduceNeg, Nat.reduceGT, Nat.reduceLT, Nat.reduceLeDiff, Nat.reduceEqDiff, ↓reduceIte, reduceCtorEq, Int.reduceToNat, Int.reduceLE, Int.reduceLT, Nat.reduceAdd, Nat.reduceMul, ff_43]
      repeat (first | refine qqn rfl ?_ | ((first | (refine WK.rgn ?_ ?_; kernel_rfl) | refine AtCall.now ?_); simp (config := {maxSteps:=999999}) only [SS, qx13, forall_const, vun, Int.reduceEq, Int.reduceNeg, Nat.reduceGT, Nat.reduceLT, Nat.reduceLeDiff, Nat.reduceEqDiff, ↓reduceIte, reduceCtorEq, Int.reduceToNat, Int.reduceLE, Int.reduceLT, Nat.reduceAdd, Nat.reduceMul, f0, f1, f4, f5, Option.isSome_some, Option.getD_some, hb4, it0, it1, it2, itle, ittk, itag, ff_43]) | (refine qqj ?_ ?_; focus (simp only [qqs, Nat.reduceEqDiff, ↓reduceIte, f0, f1, f4, f5, Option.isSome_some, Option.getD_some, hb4, it0, it1, it2, itle, ittk, itag, ff_43]; done)) | (refine qqk ?_ ?_; focus (simp only [qqs, Nat.reduceEqDiff, ↓reduceIte, f0, f1, f4, f5, Option.isSome_some, Option.getD_some, hb4, it0, it1, it2, itle, ittk, itag, ff_43]; done)))
      refine AtCall.by (isVar_gives y0 n4 H4) ?_
      rintro w n5 H5 hk5 ⟨rfl, rfl, rfl⟩
      simp (config := {maxSteps:=999999}) only [SS, qx13, forall_const, vun, Int.reduceEq, Int.reduceNeg, Nat.reduceGT, Nat.reduceLT, Nat.reduceLeDiff, Nat.reduceEqDiff, ↓reduceIte, reduceCtorEq, Int.reduceToNat, Int.reduceLE, Int.reduceLT, Nat.reduceAdd, Nat.reduceMul, ff_43]
      by_cases hv : 0 ≤ y0
      · obtain ⟨yn, rfl⟩ := Int.eq_ofNat_of_zero_le hv
        have hst : stepC g gd em sets at_ l l[i] = (if em.getD yn false then addI (beginL g gd yn at_ l) (upI l[i]) else beginL g gd yn at_ l) := by unfold stepC; rw [hn]; simp only [hv, if_true, Int.toNat_natCast]
        have hye : yn < em.length := by rw [st.emL]; omega
        repeat (first | refine qqn rfl ?_ | ((first | (refine WK.rgn ?_ ?_; kernel_rfl) | refine AtCall.now ?_); simp (config := {maxSteps:=999999}) only [SS, qx13, forall_const, vun, Int.reduceEq, Int.reduceNeg, Nat.reduceGT, Nat.reduceLT, Nat.reduceLeDiff, Nat.reduceEqDiff, ↓reduceIte, reduceCtorEq, Int.reduceToNat, Int.reduceLE, Int.reduceLT, Nat.reduceAdd, Nat.reduceMul, f0, f1, f4, f5, hv, decide_true, ff_43]) | (refine qqj ?_ ?_; focus (simp only [qqs, Nat.reduceEqDiff, ↓reduceIte, f0, f1, f4, f5, hv, decide_true, ff_43]; done)) | (refine qqk ?_ ?_; focus (simp only [qqs, Nat.reduceEqDiff, ↓reduceIte, f0, f1, f4, f5, hv, decide_true, ff_43]; done)))
        refine AtCall.byX (cbegin_gives st hw4 hS4 hN4 hoN hyN ho4 hg4 hl2 ha) ?_
        rintro w n6 H6 kx6 ⟨rc6, hg6⟩
        have hb6 := rc6.2 _ _ _ _ (by omega) hb4
        have ho6 := (kx6.keep o (by omega) (by omega)).trans ho4
        have hS6 := hS4.kx st.wf kx6 hN4
        obtain ⟨z, kz, ds, tz, oz, rfl, hz, e⟩ := (st.emA.sub hS6).at hye
        cases hem : em[yn] with
        | false =>
          rw [hem] at e
          simp (config := {maxSteps:=999999}) only [SS, qx13, forall_const, vun, Int.reduceEq, Int.reduceNeg, Nat.reduceGT, Nat.reduceLT, Nat.reduceLeDiff, Nat.reduceEqDiff, ↓reduceIte, reduceCtorEq, Int.reduceToNat, Int.reduceLE, Int.reduceLT, Nat.reduceAdd, Nat.reduceMul, ff_43]
          repeat (first | refine qqn rfl ?_ | ((first | (refine WK.rgn ?_ ?_; kernel_rfl) | refine AtCall.now ?_); simp (config := {maxSteps:=999999}) only [SS, qx13, forall_const, vun, Int.reduceEq, Int.reduceNeg, Nat.reduceGT, Nat.reduceLT, Nat.reduceLeDiff, Nat.reduceEqDiff, ↓reduceIte, reduceCtorEq, Int.reduceToNat, Int.reduceLE, Int.reduceLT, Nat.reduceAdd, Nat.reduceMul, f0, f1, f4, f5, hwi, ho6, ch4, hye, hz, e, aop_nc, tnc, ff_43]) | (refine qqj ?_ ?_; focus (simp only [qqs, Nat.reduceEqDiff, ↓reduceIte, f0, f1, f4, f5, hwi, ho6, ch4, hye, hz, e, aop_nc, tnc, ff_43]; done)) | (refine qqk ?_ ?_; focus (simp only [qqs, Nat.reduceEqDiff, ↓reduceIte, f0, f1, f4, f5, hwi, ho6, ch4, hye, hz, e, aop_nc, tnc, ff_43]; done)))
          have hst2 : em.getD yn false = false := by rw [List.getD_eq_getElem?_getD, List.getElem?_eq_getElem hye, hem]; rfl
          refine ih (bndI g at_ - (i + 1)) (by omega) _ ⟨_, i + 1, kx4.trans kx6, f0, f1, f4, rfl, ?_, hok', by omega, hcl', rfl⟩
          rw [hst, hst2, if_neg (by simp)]; exact hg6
        | true =>
          rw [hem] at e
          have hst2 : em.getD yn false = true := by rw [List.getD_eq_getElem?_getD, List.getElem?_eq_getElem hye, hem]; rfl
          simp (config := {maxSteps:=999999}) only [SS, qx13, forall_const, vun, Int.reduceEq, Int.reduceNeg, Nat.reduceGT, Nat.reduceLT, Nat.reduceLeDiff, Nat.reduceEqDiff, ↓reduceIte, reduceCtorEq, Int.reduceToNat, Int.reduceLE, Int.reduceLT, Nat.reduceAdd, Nat.reduceMul, ff_43]
          repeat (first | refine qqn rfl ?_ | ((first | (refine WK.rgn ?_ ?_; kernel_rfl) | refine AtCall.now ?_); simp (config := {maxSteps:=999999}) only [SS, qx13, forall_const, vun, Int.reduceEq, Int.reduceNeg, Nat.reduceGT, Nat.reduceLT, Nat.reduceLeDiff, Nat.reduceEqDiff, ↓reduceIte, reduceCtorEq, Int.reduceToNat, Int.reduceLE, Int.reduceLT, Nat.reduceAdd, Nat.reduceMul, f0, f1, f4, f5, hwi, ho6, ch4, hye, hz, e, aop_nc, tnc, hb6, it0, it1, it2, itup _ hsm1, ff_43]) | (refine qqj ?_ ?_; focus (simp only [qqs, Nat.reduceEqDiff, ↓reduceIte, f0, f1, f4, f5, hwi, ho6, ch4, hye, hz, e, aop_nc, tnc, hb6, it0, it1, it2, itup _ hsm1, ff_43]; done)) | (refine qqk ?_ ?_; focus (simp only [qqs, Nat.reduceEqDiff, ↓reduceIte, f0, f1, f4, f5, hwi, ho6, ch4, hye, hz, e, aop_nc, tnc, hb6, it0, it1, it2, itup _ hsm1, ff_43]; done)))
          refine AtCall.byX (add_grown (x := upI l[i]) (kx6.wf hw4) (by have := kx6.le; omega) hyN hg6 ⟨by show l[i].1 ≤ 1000000; omega, by show l[i].2.1 + 1 ≤ 1000000; omega, by show l[i].2.2 ≤ 1000000; omega⟩ (small_okL (beginN_ok hl2 _ (Nat.le_refl _)) st.rl st.r8 ha)) ?_
          rintro w n7 H7 kx7 ⟨_, hg7⟩
          simp (config := {maxSteps:=999999}) only [SS, qx13, forall_const, vun, Int.reduceEq, Int.reduceNeg, Nat.reduceGT, Nat.reduceLT, Nat.reduceLeDiff, Nat.reduceEqDiff, ↓reduceIte, reduceCtorEq, Int.reduceToNat, Int.reduceLE, Int.reduceLT, Nat.reduceAdd, Nat.reduceMul, ff_43]
          repeat (first | refine qqn rfl ?_ | ((first | (refine WK.rgn ?_ ?_; kernel_rfl) | refine AtCall.now ?_); simp (config := {maxSteps:=999999}) only [SS, qx13, forall_const, vun, Int.reduceEq, Int.reduceNeg, Nat.reduceGT, Nat.reduceLT, Nat.reduceLeDiff, Nat.reduceEqDiff, ↓reduceIte, reduceCtorEq, Int.reduceToNat, Int.reduceLE, Int.reduceLT, Nat.reduceAdd, Nat.reduceMul, f5, hwi, ff_43]) | (refine qqj ?_ ?_; focus (simp only [qqs, Nat.reduceEqDiff, ↓reduceIte, f5, hwi, ff_43]; done)) | (refine qqk ?_ ?_; focus (simp only [qqs, Nat.reduceEqDiff, ↓reduceIte, f5, hwi, ff_43]; done)))
          refine ih (bndI g at_ - (i + 1)) (by omega) _ ⟨_, i + 1, (kx4.trans kx6).trans kx7, f0, f1, f4, rfl, ?_, hok', by omega, hcl', rfl⟩
          rw [hst, hst2, if_pos rfl]; exact hg7
      · have hst : stepC g gd em sets at_ l l[i] = l := by unfold stepC; rw [hn]; simp only [hv, if_false]
        repeat (first | refine qqn rfl ?_ | ((first | (refine WK.rgn ?_ ?_; kernel_rfl) | refine AtCall.now ?_); simp (config := {maxSteps:=999999}) only [SS, qx13, forall_const, vun, Int.reduceEq, Int.reduceNeg, Nat.reduceGT, Nat.reduceLT, Nat.reduceLeDiff, Nat.reduceEqDiff, ↓reduceIte, reduceCtorEq, Int.reduceToNat, Int.reduceLE, Int.reduceLT, Nat.reduceAdd, Nat.reduceMul, f0, f1, f4, f5, hv, decide_false, hwi, ff_43]) | (refine qqj ?_ ?_; focus (simp only [qqs, Nat.reduceEqDiff, ↓reduceIte, f0, f1, f4, f5, hv, decide_false, hwi, ff_43]; done)) | (refine qqk ?_ ?_; focus (simp only [qqs, Nat.reduceEqDiff, ↓reduceIte, f0, f1, f4, f5, hv, decide_false, hwi, ff_43]; done)))
        refine ih (bndI g at_ - (i + 1)) (by omega) _ ⟨_, i + 1, kx4, f0, f1, f4, rfl, ?_, hok', by omega, hcl', rfl⟩
        rw [hst]; exact hg4
  · repeat (first | refine qqn rfl ?_ | ((first | (refine WK.rgn ?_ ?_; kernel_rfl) | refine AtCall.now ?_); simp (config := {maxSteps:=999999}) only [SS, qx13, forall_const, vun, Int.reduceEq, Int.reduceNeg, Nat.reduceGT, Nat.reduceLT, Nat.reduceLeDiff, Nat.reduceEqDiff, ↓reduceIte, reduceCtorEq, Int.reduceToNat, Int.reduceLE, Int.reduceLT, Nat.reduceAdd, Nat.reduceMul, f0, f1, f4, f5, hlt, hy2, hpp, aop_nc, tnc, ff_43]) | (refine qqj ?_ ?_; focus (simp only [qqs, Nat.reduceEqDiff, ↓reduceIte, f0, f1, f4, f5, hlt, hy2, hpp, aop_nc, tnc, ff_43]; done)) | (refine qqk ?_ ?_; focus (simp only [qqs, Nat.reduceEqDiff, ↓reduceIte, f0, f1, f4, f5, hlt, hy2, hpp, aop_nc, tnc, ff_43]; done)))
    (first | refine WK.retNil ⟨Or.inr rfl, _, rfl, ?_, ?_⟩ | refine WK.skipNil ⟨Or.inl rfl, _, rfl, ?_, ?_⟩)
    · exact kx.keep
    · rw [closeC_end _ (by omega)] at hcl
      rw [← hcl]
      exact hg2
end Go.Proofs.Ytpdlmpbhohinpaa
