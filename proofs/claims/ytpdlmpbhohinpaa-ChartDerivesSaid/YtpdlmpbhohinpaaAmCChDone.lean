/- A part of a proof. Its conditions: none. -/
import Derived.Test.YtpdlmpbhohinpaaAmCChBegin
import Derived.Test.YtpdlmpbhohinpaaAmCChNext
set_option linter.all false
namespace Go.Proofs.Ytpdlmpbhohinpaa
open Go.AM Go.RowKit
set_option maxRecDepth 100000
theorem okI.small {g : Gram} {at_ : Nat} {x : It} (h : okI g at_ x) (hr : g.rules.length ≤ 24) (h8 : ∀ r ∈ g.rules, r.right.length ≤ 8) (ha : at_ ≤ 4000) : x.1 < 24 ∧ x.2.1 ≤ 8 ∧ x.2.2 ≤ 4000 := by
  obtain ⟨h1, h2, h3⟩ := h
  rw [rgt_at h1] at h2
  have := h8 _ (List.getElem_mem h1)
  omega
theorem Grown.kp {N y k n n' : Nat} {cs : List Value} {H H1 H2 : Heap} {l : List It} (a : Grown N y k cs H H1 l) (hw : WF n H1) (hk : Kp n H1 n' H2) : Grown N y k cs H H2 l := by
  obtain ⟨r1, v1, h1, v2, m2, s0, s1, s2, s3, s4⟩ := a
  have hyn : y < n := Classical.byContradiction fun hc => by rw [hw y (by omega)] at h1; cases h1
  have hmn : m2 < n := Classical.byContradiction fun hc => by rw [hw m2 (by omega)] at s3; unfold MO at s3; cases s3
  refine ⟨r1.trans (rc_kp hk hw), v1, (hk.keep y hyn).trans h1, v2, m2, s0, s1, s2, (hk.keep m2 hmn).trans s3, ?_⟩
  rcases s4 with h | ⟨h0, z, e1, e2, e3⟩
  · exact .inl h
  · exact .inr ⟨h0, z, e1, e2, (hk.keep z (Classical.byContradiction fun hc => by rw [hw z (by omega)] at e3; cases e3)).trans e3⟩
set_option maxHeartbeats 8000000 in
theorem done_gives {S H0 H : Heap} {N o n y k at_ m c : Nat} {pt pv pr pg pe pc : Option Addr} {g : Gram} {gd em : List Bool} {co : List Nat} {wv : Value} {cs : List Value} {l ps : List It} {x : It} (st : Stat S N pr pg pe pc g gd em co) (hw : WF n H) (hS : Sub S H) (hN : N ≤ n) (hoN : o < N) (hyN : N ≤ y)
    (ho : H o = .cells (chC pt pv pr pg pe pc g gd em co (.slice (some ⟨y, 0, none⟩) m c) wv) 62 true) (hg : Grown N y k cs H0 H l) (hl : okL g at_ l) (ha : at_ ≤ 4000) (hx : okI g at_ x)
    (hm : x.2.2 < m) (hm4 : m ≤ 5000) {cs1 : List Value} (hy1 : H y = .cells cs1 69 true) {pp : Option Addr} (hp : cs1[x.2.2 * 2]? = some (.slice pp ps.length ps.length)) (hps : LR H (.slice pp ps.length ps.length) ps) (hpo : ∀ p ∈ ps, okI g at_ p) (hpl : ps.length ≤ 900000) :
    GivesX Try.prog (fun z => N ≤ z) 67 [.pointer (some ⟨o, 0, none⟩), .pointer (some ⟨y, k, none⟩), itV x] n H fun _ _ H' => RC (· = y) H H' ∧ Grown N y k cs H0 H' (doneL g (lft g x.1) ps l) := by
  refine GivesX.of orders ok67 (Nat.le_of_ble_eq_true rfl) ?_
  have hk := Kp.new n H (.cells (itC x) 74 true)
  have hb := hset_at H n (.cells (itC x) 74 true)
  have hon : o < n := by omega
  have hyn : y < n := Classical.byContradiction fun hc => by rw [hw y (by omega)] at hy1; cases hy1
  have ho1 := (hk.keep o hon).trans ho
  have hS1 := hS.kp hw hk
  have hrk := rc_kp (P := (· = y)) hk hw
  have hyb := (hk.keep y hyn).trans hy1
  repeat (first | apply qqa | apply qqb | apply qqc | apply qqd | apply qqe | apply qqf | apply qqg | apply qqh | refine qqi rfl ?_)
  (refine WK.rgn ?_ ?_; kernel_rfl; simp (config := { maxSteps := 1000000 }) only [SS, qg0, qgb, qgl, qgs, qgi, qgf, qga, forall_const, tor, Go.AM.splice, one, tlen2, tpick, textr, tbox, tbuild, afill, Int.reduceEq, Int.reduceNeg, Nat.reduceGT, Nat.reduceLT, Nat.reduceLeDiff, Nat.reduceEqDiff, ↓reduceIte, reduceCtorEq, Int.reduceToNat, Int.reduceLE, Int.reduceLT, Nat.reduceAdd, Nat.reduceMul, itvc, itone, ff_67])
  generalize hset H n (.cells (itC x) 74 true) = H1 at *
  obtain ⟨hx1, hx2, hx3⟩ := hx
  have hrl := st.rl
  obtain ⟨z, kz, ds, tz, oz, p, rfl, hz, c0, c1, c2, hpp⟩ := (st.rr.sub hS1).at hx1
  repeat (first | apply qqa | apply qqb | apply qqc | apply qqd | apply qqe | apply qqf | apply qqg | apply qqh | refine qqi rfl ?_ | ((first | (refine WK.rgn ?_ ?_; kernel_rfl) | refine AtCall.now ?_); simp (config := { maxSteps := 1000000 }) only [SS, qg0, qgb, qgl, qgs, qgi, qgf, qga, forall_const, tor, Go.AM.splice, one, tlen2, tpick, textr, tbox, tbuild, afill, Int.reduceEq, Int.reduceNeg, Nat.reduceGT, Nat.reduceLT, Nat.reduceLeDiff, Nat.reduceEqDiff, ↓reduceIte, reduceCtorEq, Int.reduceToNat, Int.reduceLE, Int.reduceLT, Nat.reduceAdd, Nat.reduceMul, hb, ho1, ch2, ch6, it0, it1, it2, aop_nc, tnc, hx1, hz, c0, c1, hm, hyb, hp, ff_67]) | refine qqj rfl ?_ | refine qqk rfl ?_)
  have hw1 := hk.wf hw
  have hg1 := hg.kp hw hk
  have hps1 := hps.rk hrk.1
  refine WK.loop (fun k2 s => ∃ j : Nat, Kx (fun z => N ≤ z) n H s.n s.H ∧ s.f 0 = .pointer (some ⟨o, 0, none⟩) ∧ s.f 1 = .pointer (some ⟨y, k, none⟩) ∧ s.f 6 = .int .i64 (lft g x.1) ∧ s.f 29 = .slice pp ps.length ps.length ∧ s.f 30 = .int .i64 (ps.length : Nat) ∧ s.f 31 = .int .i64 (j : Nat) ∧ j ≤ ps.length ∧ RC (· = y) H1 s.H ∧ Grown N y k cs H0 s.H (doneL g (lft g x.1) (ps.take j) l) ∧ k2 = ps.length - j) ps.length ?_ ?_
  · exact ⟨0, hk.kx, rfl, rfl, by rw [lft_at hx1]; rfl, rfl, rfl, rfl, Nat.zero_le _, .refl _ _, by rw [List.take_zero]; exact hg1, rfl⟩
  rintro kk ⟨f, n2, H2⟩ ⟨j, kx, f0, f1, f6, f29, f30, f31, hj, hrk2, hg2, rfl⟩ ih
  simp only at f0 f1 f6 f29 f30 f31 kx hg2 hrk2 ih
  have hle := kx.le
  have hw2 := kx.wf hw
  by_cases hlt : j < ps.length
  · obtain ⟨zp, op, rfl, hzp, e3, e4⟩ := (hps1.rk hrk2.1).at hlt
    have hk3 := Kp.new n2 H2 (.cells (itC ps[j]) 74 true)
    have hb3 := hset_at H2 n2 (.cells (itC ps[j]) 74 true)
    have ho3 := ((kx.trans hk3.kx).keep o hon (by omega)).trans ho
    have hS3 := hS.kx st.wf (kx.trans hk3.kx) hN
    have hw3 := hk3.wf hw2
    have hrk3 := hrk2.trans (rc_kp hk3 hw2)
    have hg3 := hg2.kp hw2 hk3
    have kx3 := kx.trans hk3.kx
    generalize hE : hset H2 n2 (.cells (itC ps[j]) 74 true) = H3 at *
    repeat (first | apply qqa | apply qqb | apply qqc | apply qqd | apply qqe | apply qqf | apply qqg | apply qqh | refine qqi rfl ?_ | ((first | (refine WK.rgn ?_ ?_; kernel_rfl) | refine AtCall.now ?_); simp (config := { maxSteps := 1000000 }) only [SS, qg0, qgb, qgl, qgs, qgi, qgf, qga, forall_const, tor, Go.AM.splice, one, tlen2, tpick, textr, tbox, tbuild, afill, Int.reduceEq, Int.reduceNeg, Nat.reduceGT, Nat.reduceLT, Nat.reduceLeDiff, Nat.reduceEqDiff, ↓reduceIte, reduceCtorEq, Int.reduceToNat, Int.reduceLE, Int.reduceLT, Nat.reduceAdd, Nat.reduceMul, f0, f1, f6, f29, f30, f31, hlt, hzp, e3, e4, itvc, itone, itsp, itle, ittk, itag, hb3, hE, ff_67]) | refine qqj rfl ?_ | refine qqk rfl ?_)
    obtain ⟨hq1, hq2, hq3⟩ := hpo _ (List.getElem_mem hlt)
    have hsm : ps[j].1 < 24 ∧ ps[j].2.1 ≤ 8 ∧ ps[j].2.2 ≤ 4000 := okI.small ⟨hq1, hq2, hq3⟩ st.rl st.r8 ha
    have hsm1 : ps[j].2.1 ≤ 1000 := by omega
    refine AtCall.by (next_gives st hw3 hS3 ho3 hq1 hq2) ?_
    rintro w n4 H4 hk4 rfl
    have hb4 := (hk4.keep n2 (by omega)).trans hb3
    have hrk4 := hrk3.trans (rc_kp hk4 hw3)
    have hg4 := hg3.kp hw3 hk4
    have kx4 := kx3.trans hk4.kx
    have hsn := doneL_snoc (g := g) (left := lft g x.1) (l := l) hlt
    cases hn : nx g ps[j] with
    | none =>
      rw [hn] at hsn
      rw [if_neg (by simp)] at hsn
      simp (config := { maxSteps := 1000000 }) only [SS, qg0, qgb, qgl, qgs, qgi, qgf, qga, forall_const, tor, Go.AM.splice, one, tlen2, tpick, textr, tbox, tbuild, afill, Int.reduceEq, Int.reduceNeg, Nat.reduceGT, Nat.reduceLT, Nat.reduceLeDiff, Nat.reduceEqDiff, ↓reduceIte, reduceCtorEq, Int.reduceToNat, Int.reduceLE, Int.reduceLT, Nat.reduceAdd, Nat.reduceMul, ff_67]
      repeat (first | apply qqa | apply qqb | apply qqc | apply qqd | apply qqe | apply qqf | apply qqg | apply qqh | refine qqi rfl ?_ | ((first | (refine WK.rgn ?_ ?_; kernel_rfl) | refine AtCall.now ?_); simp (config := { maxSteps := 1000000 }) only [SS, qg0, qgb, qgl, qgs, qgi, qgf, qga, forall_const, tor, Go.AM.splice, one, tlen2, tpick, textr, tbox, tbuild, afill, Int.reduceEq, Int.reduceNeg, Nat.reduceGT, Nat.reduceLT, Nat.reduceLeDiff, Nat.reduceEqDiff, ↓reduceIte, reduceCtorEq, Int.reduceToNat, Int.reduceLE, Int.reduceLT, Nat.reduceAdd, Nat.reduceMul, f0, f1, f6, f29, f30, f31, Option.isSome_none, ff_67]) | refine qqj rfl ?_ | refine qqk rfl ?_)
      refine ih (ps.length - (j + 1)) (by omega) _ ⟨j + 1, kx4, f0, f1, f6, f29, f30, ?_, hlt, hrk4, ?_, rfl⟩
      · simp only [packed, fset_apply, Nat.reduceEqDiff, ↓reduceIte, List.getD_cons_zero, List.getD_cons_succ, ff_67]
        rw [wrap_in (by omega) (by omega)]; rfl
      · rw [hsn]; exact hg4
    | some y0 =>
      rw [hn] at hsn
      by_cases he : y0 = lft g x.1
      · rw [if_pos (by rw [he])] at hsn
        simp (config := { maxSteps := 1000000 }) only [SS, qg0, qgb, qgl, qgs, qgi, qgf, qga, forall_const, tor, Go.AM.splice, one, tlen2, tpick, textr, tbox, tbuild, afill, Int.reduceEq, Int.reduceNeg, Nat.reduceGT, Nat.reduceLT, Nat.reduceLeDiff, Nat.reduceEqDiff, ↓reduceIte, reduceCtorEq, Int.reduceToNat, Int.reduceLE, Int.reduceLT, Nat.reduceAdd, Nat.reduceMul, ff_67]
        repeat (first | apply qqa | apply qqb | apply qqc | apply qqd | apply qqe | apply qqf | apply qqg | apply qqh | refine qqi rfl ?_ | ((first | (refine WK.rgn ?_ ?_; kernel_rfl) | refine AtCall.now ?_); simp (config := { maxSteps := 1000000 }) only [SS, qg0, qgb, qgl, qgs, qgi, qgf, qga, forall_const, tor, Go.AM.splice, one, tlen2, tpick, textr, tbox, tbuild, afill, Int.reduceEq, Int.reduceNeg, Nat.reduceGT, Nat.reduceLT, Nat.reduceLeDiff, Nat.reduceEqDiff, ↓reduceIte, reduceCtorEq, Int.reduceToNat, Int.reduceLE, Int.reduceLT, Nat.reduceAdd, Nat.reduceMul, f0, f1, f6, f29, f30, f31, he, hb4, itup _ hsm1, Option.isSome_some, Option.getD_some, it0, it1, it2, ff_67]) | refine qqj rfl ?_ | refine qqk rfl ?_)
        have hy4 := hg4
        refine AtCall.byX (add_grown (x := upI ps[j]) (kx4.wf hw) (by have := kx4.le; omega) hyN hg4 ⟨by show ps[j].1 ≤ 1000000; omega, by show ps[j].2.1 + 1 ≤ 1000000; omega, by show ps[j].2.2 ≤ 1000000; omega⟩ (small_okL (doneL_ok (ps.take j) (fun p hp => hpo p (List.mem_of_mem_take hp)) hl) st.rl st.r8 ha)) ?_
        rintro w n5 H5 kx5 ⟨hrk5, hg5⟩
        simp (config := { maxSteps := 1000000 }) only [SS, qg0, qgb, qgl, qgs, qgi, qgf, qga, forall_const, tor, Go.AM.splice, one, tlen2, tpick, textr, tbox, tbuild, afill, Int.reduceEq, Int.reduceNeg, Nat.reduceGT, Nat.reduceLT, Nat.reduceLeDiff, Nat.reduceEqDiff, ↓reduceIte, reduceCtorEq, Int.reduceToNat, Int.reduceLE, Int.reduceLT, Nat.reduceAdd, Nat.reduceMul, ff_67]
        repeat (first | apply qqa | apply qqb | apply qqc | apply qqd | apply qqe | apply qqf | apply qqg | apply qqh | refine qqi rfl ?_ | ((first | (refine WK.rgn ?_ ?_; kernel_rfl) | refine AtCall.now ?_); simp (config := { maxSteps := 1000000 }) only [SS, qg0, qgb, qgl, qgs, qgi, qgf, qga, forall_const, tor, Go.AM.splice, one, tlen2, tpick, textr, tbox, tbuild, afill, Int.reduceEq, Int.reduceNeg, Nat.reduceGT, Nat.reduceLT, Nat.reduceLeDiff, Nat.reduceEqDiff, ↓reduceIte, reduceCtorEq, Int.reduceToNat, Int.reduceLE, Int.reduceLT, Nat.reduceAdd, Nat.reduceMul, f31, ff_67]) | refine qqj rfl ?_ | refine qqk rfl ?_)
        refine ih (ps.length - (j + 1)) (by omega) _ ⟨j + 1, kx4.trans kx5, f0, f1, f6, f29, f30, ?_, hlt, ?_, ?_, rfl⟩
        · simp only [packed, fset_apply, Nat.reduceEqDiff, ↓reduceIte, List.getD_cons_zero, List.getD_cons_succ, ff_67]
          rw [wrap_in (by omega) (by omega)]; rfl
        · exact hrk4.trans hrk5
        · rw [hsn]; exact hg5
      · rw [if_neg (by simp [he])] at hsn
        simp (config := { maxSteps := 1000000 }) only [SS, qg0, qgb, qgl, qgs, qgi, qgf, qga, forall_const, tor, Go.AM.splice, one, tlen2, tpick, textr, tbox, tbuild, afill, Int.reduceEq, Int.reduceNeg, Nat.reduceGT, Nat.reduceLT, Nat.reduceLeDiff, Nat.reduceEqDiff, ↓reduceIte, reduceCtorEq, Int.reduceToNat, Int.reduceLE, Int.reduceLT, Nat.reduceAdd, Nat.reduceMul, ff_67]
        repeat (first | apply qqa | apply qqb | apply qqc | apply qqd | apply qqe | apply qqf | apply qqg | apply qqh | refine qqi rfl ?_ | ((first | (refine WK.rgn ?_ ?_; kernel_rfl) | refine AtCall.now ?_); simp (config := { maxSteps := 1000000 }) only [SS, qg0, qgb, qgl, qgs, qgi, qgf, qga, forall_const, tor, Go.AM.splice, one, tlen2, tpick, textr, tbox, tbuild, afill, Int.reduceEq, Int.reduceNeg, Nat.reduceGT, Nat.reduceLT, Nat.reduceLeDiff, Nat.reduceEqDiff, ↓reduceIte, reduceCtorEq, Int.reduceToNat, Int.reduceLE, Int.reduceLT, Nat.reduceAdd, Nat.reduceMul, f0, f1, f6, f29, f30, f31, he, Option.isSome_some, Option.getD_some, ff_67]) | refine qqj rfl ?_ | refine qqk rfl ?_)
        refine ih (ps.length - (j + 1)) (by omega) _ ⟨j + 1, kx4, f0, f1, f6, f29, f30, ?_, hlt, hrk4, ?_, rfl⟩
        · simp only [packed, fset_apply, Nat.reduceEqDiff, ↓reduceIte, List.getD_cons_zero, List.getD_cons_succ, ff_67]
          rw [wrap_in (by omega) (by omega)]; rfl
        · rw [hsn]; exact hg4
  · repeat (first | apply qqa | apply qqb | apply qqc | apply qqd | apply qqe | apply qqf | apply qqg | apply qqh | refine qqi rfl ?_ | ((first | (refine WK.rgn ?_ ?_; kernel_rfl) | refine AtCall.now ?_); simp (config := { maxSteps := 1000000 }) only [SS, qg0, qgb, qgl, qgs, qgi, qgf, qga, forall_const, tor, Go.AM.splice, one, tlen2, tpick, textr, tbox, tbuild, afill, Int.reduceEq, Int.reduceNeg, Nat.reduceGT, Nat.reduceLT, Nat.reduceLeDiff, Nat.reduceEqDiff, ↓reduceIte, reduceCtorEq, Int.reduceToNat, Int.reduceLE, Int.reduceLT, Nat.reduceAdd, Nat.reduceMul, f0, f1, f6, f29, f30, f31, hlt, ff_67]) | refine qqj rfl ?_ | refine qqk rfl ?_)
    (first | refine WK.retNil ⟨Or.inr rfl, _, rfl, ?_, ?_⟩ | refine WK.skipNil ⟨Or.inl rfl, _, rfl, ?_, ?_⟩)
    · exact kx.keep
    · have : j = ps.length := by omega
      subst this
      rw [List.take_length] at hg2
      exact ⟨hrk.trans hrk2, hg2⟩
end Go.Proofs.Ytpdlmpbhohinpaa
