/- A part of a proof. Its conditions: none. -/
import Derived.Test.YtgnmaekfiifepaaDoorAmMMiGlobs
import Derived.Test.YtgnmaekfiifepaaDoorAmMMiLeast
import Derived.Test.YtgnmaekfiifepaaDoorAmMMiSame
import Derived.Test.YtgnmaekfiifepaaDoorAmMMiLeasts
import Derived.Test.YtgnmaekfiifepaaDoorAmC
set_option linter.all false
namespace Go.Proofs.YtgnmaekfiifepaaDoor
open Go.AM
set_option maxRecDepth 100000
theorem pick_num (z : Int) {K : Nat} (hK : 0 < K) (hK2 : K ≤ 1000) : ∃ m A : Nat, IntKind.i64.wrap ((BitVec.ofInt IntKind.i64.bits z &&& BitVec.ofInt IntKind.i64.bits 255).toNat) = (m : Int) ∧ IntKind.i64.wrap (1 + (m : Int).tmod (K : Int)) = (A : Int) ∧ 0 < A ∧ A < K + 1 := by
  have h1 : (BitVec.ofInt IntKind.i64.bits z &&& BitVec.ofInt IntKind.i64.bits 255).toNat ≤ 255 := by
    rw [BitVec.toNat_and]
    exact Nat.le_trans Nat.and_le_right (Nat.le_refl _)
  generalize (BitVec.ofInt IntKind.i64.bits z &&& BitVec.ofInt IntKind.i64.bits 255).toNat = m at h1
  have h2 := Nat.mod_lt m hK
  refine ⟨m, 1 + m % K, wrap_in (by omega) (by omega), ?_, by omega, by omega⟩
  have h3 : (m : Int).tmod (K : Int) = ((m % K : Nat) : Int) := (Int.ofNat_tmod m K).symm
  rw [h3, wrap_in (by omega) (by omega)]
  omega
theorem wa_of_ok {M : List (List Int)} {Q : List Int} {w : Nat} (okM : Mini.Ok M Q w) (hN : M.length ≤ 1000) (hw : w ≤ 1000) (hq : ∀ y, y ∈ Q → inI y) : WA M Q := by
  refine ⟨by unfold maxL; omega, by have := okM.len; unfold maxL; omega, fun l hl => ?_, hq⟩
  obtain ⟨i, hi, rfl⟩ := List.getElem_of_mem hl
  have hr := okM.row i hi
  rw [Mini.getD_at [] hi] at hr
  refine ⟨by unfold maxL; omega, fun y hy => ?_⟩
  obtain ⟨t, ht, rfl⟩ := List.getElem_of_mem hy
  have h1 := okM.lo i hi t (by omega)
  have h2 := okM.hi i hi t (by omega)
  rw [Mini.at2_at hi ht] at h1 h2
  unfold inI
  omega
theorem least_wa2 {N : List (List Int)} {R : List Int} {w : Nat} {M : List (List Int)} {Q : List Int} (ok : Mini.Ok N R w) (ws : WA N R) (hN : N.length ≤ 1000) (hw : w ≤ 1000) (a : Mini.Least N R w M Q) : M.length ≤ N.length ∧ WA M Q := by
  obtain ⟨okM, _, _⟩ := Mini.Least.facts ok a
  obtain ⟨kf, m, _, hj, hm, rfl, rfl⟩ := a.ex
  have hl := Mini.liter_lt (kf := kf) ok m hj
  have hle : (Mini.liter N kf m).2.length ≤ N.length := by
    have h1 := hl.st.len
    have h2 := hl.len
    omega
  refine ⟨hle, wa_of_ok okM (by omega) hw fun y hy => ?_⟩
  obtain ⟨s, hs, rfl⟩ := List.mem_map.1 hy
  have hlt := hl.st.lt s hs
  have := ok.len
  rw [Mini.at1_at (by omega)]
  exact ws.rule _ (List.getElem_mem _)
set_option maxHeartbeats 16000000 in
theorem turns_gives {v : Value} {N : List (List Int)} {R : List Int} {za zb : Int} {n0 : Nat} {H0 : Heap} (hw0 : WF n0 H0) (hG : ∀ z, G z ≠ .dead → H0 z = G z) (hd : RD H0 v N R) (ws : WA N R) :
    Gives Tryd.prog 4 [v, .int .i64 za, .int .i64 zb] n0 H0 fun v _ _ => v = .bool true := by
  have hd0 := hd
  have hT0 := tens_of hG
  obtain ⟨a, b, rfl, hN0, hR0⟩ := hd
  refine Gives.of orders ok4 (Nat.le_of_ble_eq_true rfl) ?_
  have hk := Kp.new n0 H0 (.cells (acells a b N R) 25 true)
  have hb := hset_at H0 n0 (.cells (acells a b N R) 25 true)
  repeat (first | apply WK.seq | apply WK.block | apply WK.skipSeq | apply WK.skipBlock | apply WK.retSeq | apply WK.retBlock | apply WK.exitSeq | apply WK.exitHere | refine WK.exitOn rfl ?_)
  (refine WK.rgn ?_ ?_; kernel_rfl; simp (config := { maxSteps := 1000000 }) only [SS, forall_const, wx, tguard, acallee, top, tval, fput, tor, vsh, vbin, vun, tload, tload2, tload3, tstore, tstore2, tstore3, Go.AM.splice, one, tidx, tidx2, tidx3, tfa, tfa2, tlen2, tlen3, tpick, tbox, talloc, still, still1, flat1, tbuild, afill, tbs, tbs2, tap, tap2, tap3, tap4, tsrc, tsrc2, Int.reduceEq, Int.reduceNeg, Nat.reduceGT, Nat.reduceLT, Nat.reduceLeDiff, Nat.reduceEqDiff, ↓reduceIte, reduceCtorEq, Int.reduceToNat, Int.reduceLE, Int.reduceLT, Nat.reduceAdd, Nat.reduceMul, abox, abox_cells, abox_one, ff_4])
  repeat (first | apply WK.seq | apply WK.block | apply WK.skipSeq | apply WK.skipBlock | apply WK.retSeq | apply WK.retBlock | apply WK.exitSeq | apply WK.exitHere | refine WK.exitOn rfl ?_)
  generalize hset H0 n0 (.cells (acells a b N R) 25 true) = H1 at *
  have hd1 := hd0.mono hw0 hk
  have hw1 := hk.wf hw0
  have hG1 : ∀ z, G z ≠ .dead → H1 z = G z := fun z hz => by
    have h := hG z hz
    rw [hk.keep z (live_lt0 hw0 (by rw [h]; exact hz)), h]
  repeat (first | apply WK.seq | apply WK.block | apply WK.skipSeq | apply WK.skipBlock | apply WK.retSeq | apply WK.retBlock | apply WK.exitSeq | apply WK.exitHere | refine WK.exitOn rfl ?_ | ((first | (refine WK.rgn ?_ ?_; kernel_rfl) | refine AtCall.now ?_); simp (config := { maxSteps := 1000000 }) only [SS, forall_const, wx, tguard, acallee, top, tval, fput, tor, vsh, vbin, vun, tload, tload2, tload3, tstore, tstore2, tstore3, Go.AM.splice, one, tidx, tidx2, tidx3, tfa, tfa2, tlen2, tlen3, tpick, tbox, talloc, still, still1, flat1, tbuild, afill, tbs, tbs2, tap, tap2, tap3, tap4, tsrc, tsrc2, Int.reduceEq, Int.reduceNeg, Nat.reduceGT, Nat.reduceLT, Nat.reduceLeDiff, Nat.reduceEqDiff, ↓reduceIte, reduceCtorEq, Int.reduceToNat, Int.reduceLE, Int.reduceLT, Nat.reduceAdd, Nat.reduceMul, ff_4]) | (refine WK.condT ?_ ?_; focus (simp only [ev_tmp, ev_const, fset_apply, Nat.reduceEqDiff, ↓reduceIte, decide_true, decide_false, ff_4]; done)) | (refine WK.condF ?_ ?_; focus (simp only [ev_tmp, ev_const, fset_apply, Nat.reduceEqDiff, ↓reduceIte, decide_true, decide_false, ff_4]; done)))
  refine AtCall.by (alive_gives _ _ hG1) ?_
  rintro v n' H' k' ⟨rfl, rfl, rfl⟩
  simp (config := { maxSteps := 1000000 }) only [SS, forall_const, wx, tguard, acallee, top, tval, fput, tor, vsh, vbin, vun, tload, tload2, tload3, tstore, tstore2, tstore3, Go.AM.splice, one, tidx, tidx2, tidx3, tfa, tfa2, tlen2, tlen3, tpick, tbox, talloc, still, still1, flat1, tbuild, afill, tbs, tbs2, tap, tap2, tap3, tap4, tsrc, tsrc2, Int.reduceEq, Int.reduceNeg, Nat.reduceGT, Nat.reduceLT, Nat.reduceLeDiff, Nat.reduceEqDiff, ↓reduceIte, reduceCtorEq, Int.reduceToNat, Int.reduceLE, Int.reduceLT, Nat.reduceAdd, Nat.reduceMul, Bool.not_true, ff_4]
  repeat (first | apply WK.seq | apply WK.block | apply WK.skipSeq | apply WK.skipBlock | apply WK.retSeq | apply WK.retBlock | apply WK.exitSeq | apply WK.exitHere | refine WK.exitOn rfl ?_ | ((first | (refine WK.rgn ?_ ?_; kernel_rfl) | refine AtCall.now ?_); simp (config := { maxSteps := 1000000 }) only [SS, forall_const, wx, tguard, acallee, top, tval, fput, tor, vsh, vbin, vun, tload, tload2, tload3, tstore, tstore2, tstore3, Go.AM.splice, one, tidx, tidx2, tidx3, tfa, tfa2, tlen2, tlen3, tpick, tbox, talloc, still, still1, flat1, tbuild, afill, tbs, tbs2, tap, tap2, tap3, tap4, tsrc, tsrc2, Int.reduceEq, Int.reduceNeg, Nat.reduceGT, Nat.reduceLT, Nat.reduceLeDiff, Nat.reduceEqDiff, ↓reduceIte, reduceCtorEq, Int.reduceToNat, Int.reduceLE, Int.reduceLT, Nat.reduceAdd, Nat.reduceMul, hb, ac_all, ac_len, ff_4]) | (refine WK.condT ?_ ?_; focus (simp only [ev_tmp, ev_const, fset_apply, Nat.reduceEqDiff, ↓reduceIte, decide_true, decide_false, hb, ac_all, ac_len, ff_4]; done)) | (refine WK.condF ?_ ?_; focus (simp only [ev_tmp, ev_const, fset_apply, Nat.reduceEqDiff, ↓reduceIte, decide_true, decide_false, hb, ac_all, ac_len, ff_4]; done)))
  refine AtCall.by (small2_gives hw1 hd1 ws) ?_
  rintro v n2 H2 k2 rfl
  have kA := hk.trans k2
  have hw2 := k2.wf hw1
  have hle2 := k2.le
  have hb2 := (k2.keep n0 (by omega)).trans hb
  cases hsv : smallB N R with
  | false =>
    simp (config := { maxSteps := 1000000 }) only [SS, forall_const, wx, tguard, acallee, top, tval, fput, tor, vsh, vbin, vun, tload, tload2, tload3, tstore, tstore2, tstore3, Go.AM.splice, one, tidx, tidx2, tidx3, tfa, tfa2, tlen2, tlen3, tpick, tbox, talloc, still, still1, flat1, tbuild, afill, tbs, tbs2, tap, tap2, tap3, tap4, tsrc, tsrc2, Int.reduceEq, Int.reduceNeg, Nat.reduceGT, Nat.reduceLT, Nat.reduceLeDiff, Nat.reduceEqDiff, ↓reduceIte, reduceCtorEq, Int.reduceToNat, Int.reduceLE, Int.reduceLT, Nat.reduceAdd, Nat.reduceMul, Bool.not_false, ff_4]
    repeat (first | apply WK.seq | apply WK.block | apply WK.skipSeq | apply WK.skipBlock | apply WK.retSeq | apply WK.retBlock | apply WK.exitSeq | apply WK.exitHere | refine WK.exitOn rfl ?_ | ((first | (refine WK.rgn ?_ ?_; kernel_rfl) | refine AtCall.now ?_); simp (config := { maxSteps := 1000000 }) only [SS, forall_const, wx, tguard, acallee, top, tval, fput, tor, vsh, vbin, vun, tload, tload2, tload3, tstore, tstore2, tstore3, Go.AM.splice, one, tidx, tidx2, tidx3, tfa, tfa2, tlen2, tlen3, tpick, tbox, talloc, still, still1, flat1, tbuild, afill, tbs, tbs2, tap, tap2, tap3, tap4, tsrc, tsrc2, Int.reduceEq, Int.reduceNeg, Nat.reduceGT, Nat.reduceLT, Nat.reduceLeDiff, Nat.reduceEqDiff, ↓reduceIte, reduceCtorEq, Int.reduceToNat, Int.reduceLE, Int.reduceLT, Nat.reduceAdd, Nat.reduceMul, ff_4]) | (refine WK.condT ?_ ?_; focus (simp only [ev_tmp, ev_const, fset_apply, Nat.reduceEqDiff, ↓reduceIte, decide_true, decide_false, ff_4]; done)) | (refine WK.condF ?_ ?_; focus (simp only [ev_tmp, ev_const, fset_apply, Nat.reduceEqDiff, ↓reduceIte, decide_true, decide_false, ff_4]; done)))
    (first | refine WK.retNil ⟨Or.inr rfl, _, rfl, ?_, ?_⟩ | refine WK.skipNil ⟨Or.inl rfl, _, rfl, ?_, ?_⟩)
    · exact kA.keep
    · simp only [packed, fset_apply, Nat.reduceEqDiff, ↓reduceIte, List.getD_cons_zero, List.getD_cons_succ, ff_4]
  | true =>
  simp (config := { maxSteps := 1000000 }) only [SS, forall_const, wx, tguard, acallee, top, tval, fput, tor, vsh, vbin, vun, tload, tload2, tload3, tstore, tstore2, tstore3, Go.AM.splice, one, tidx, tidx2, tidx3, tfa, tfa2, tlen2, tlen3, tpick, tbox, talloc, still, still1, flat1, tbuild, afill, tbs, tbs2, tap, tap2, tap3, tap4, tsrc, tsrc2, Int.reduceEq, Int.reduceNeg, Nat.reduceGT, Nat.reduceLT, Nat.reduceLeDiff, Nat.reduceEqDiff, ↓reduceIte, reduceCtorEq, Int.reduceToNat, Int.reduceLE, Int.reduceLT, Nat.reduceAdd, Nat.reduceMul, Bool.not_true, hb2, ac_all, ac_len, ff_4]
  refine AtCall.by (right_gives hw2 (hd0.mono hw0 kA) ws) ?_
  rintro v n3 H3 k3 rfl
  have kB := kA.trans k3
  have hw3 := k3.wf hw2
  have hle3 := k3.le
  have hb3 := (k3.keep n0 (by omega)).trans hb2
  obtain ⟨hN12, hR12, hw6a⟩ := small_facts hsv
  cases hri : Mini.rightB N R with
  | false =>
    simp (config := { maxSteps := 1000000 }) only [SS, forall_const, wx, tguard, acallee, top, tval, fput, tor, vsh, vbin, vun, tload, tload2, tload3, tstore, tstore2, tstore3, Go.AM.splice, one, tidx, tidx2, tidx3, tfa, tfa2, tlen2, tlen3, tpick, tbox, talloc, still, still1, flat1, tbuild, afill, tbs, tbs2, tap, tap2, tap3, tap4, tsrc, tsrc2, Int.reduceEq, Int.reduceNeg, Nat.reduceGT, Nat.reduceLT, Nat.reduceLeDiff, Nat.reduceEqDiff, ↓reduceIte, reduceCtorEq, Int.reduceToNat, Int.reduceLE, Int.reduceLT, Nat.reduceAdd, Nat.reduceMul, Bool.not_false, ff_4]
    repeat (first | apply WK.seq | apply WK.block | apply WK.skipSeq | apply WK.skipBlock | apply WK.retSeq | apply WK.retBlock | apply WK.exitSeq | apply WK.exitHere | refine WK.exitOn rfl ?_ | ((first | (refine WK.rgn ?_ ?_; kernel_rfl) | refine AtCall.now ?_); simp (config := { maxSteps := 1000000 }) only [SS, forall_const, wx, tguard, acallee, top, tval, fput, tor, vsh, vbin, vun, tload, tload2, tload3, tstore, tstore2, tstore3, Go.AM.splice, one, tidx, tidx2, tidx3, tfa, tfa2, tlen2, tlen3, tpick, tbox, talloc, still, still1, flat1, tbuild, afill, tbs, tbs2, tap, tap2, tap3, tap4, tsrc, tsrc2, Int.reduceEq, Int.reduceNeg, Nat.reduceGT, Nat.reduceLT, Nat.reduceLeDiff, Nat.reduceEqDiff, ↓reduceIte, reduceCtorEq, Int.reduceToNat, Int.reduceLE, Int.reduceLT, Nat.reduceAdd, Nat.reduceMul, ff_4]) | (refine WK.condT ?_ ?_; focus (simp only [ev_tmp, ev_const, fset_apply, Nat.reduceEqDiff, ↓reduceIte, decide_true, decide_false, ff_4]; done)) | (refine WK.condF ?_ ?_; focus (simp only [ev_tmp, ev_const, fset_apply, Nat.reduceEqDiff, ↓reduceIte, decide_true, decide_false, ff_4]; done)))
    (first | refine WK.retNil ⟨Or.inr rfl, _, rfl, ?_, ?_⟩ | refine WK.skipNil ⟨Or.inl rfl, _, rfl, ?_, ?_⟩)
    · exact kB.keep
    · simp only [packed, fset_apply, Nat.reduceEqDiff, ↓reduceIte, List.getD_cons_zero, List.getD_cons_succ, ff_4]
  | true =>
  have ok := (Mini.rightB_iff N R).1 hri
  have hw6 := wid hw6a
  obtain ⟨w, hw⟩ : ∃ w, w = (N.getD 0 []).length := ⟨_, rfl⟩
  rw [← hw] at ok hw6
  have hpos := ok.pos
  obtain ⟨xN, kN, csN, tyN, ownN, rfl, hx0, hr0⟩ := hN0.base (by intro e; rw [e] at hpos; exact absurd hpos (by simp))
  by_cases h3 : (N.length : Int) < 3
  · simp (config := { maxSteps := 1000000 }) only [SS, forall_const, wx, tguard, acallee, top, tval, fput, tor, vsh, vbin, vun, tload, tload2, tload3, tstore, tstore2, tstore3, Go.AM.splice, one, tidx, tidx2, tidx3, tfa, tfa2, tlen2, tlen3, tpick, tbox, talloc, still, still1, flat1, tbuild, afill, tbs, tbs2, tap, tap2, tap3, tap4, tsrc, tsrc2, Int.reduceEq, Int.reduceNeg, Nat.reduceGT, Nat.reduceLT, Nat.reduceLeDiff, Nat.reduceEqDiff, ↓reduceIte, reduceCtorEq, Int.reduceToNat, Int.reduceLE, Int.reduceLT, Nat.reduceAdd, Nat.reduceMul, Bool.not_true, hb3, ac_0, ac_1, h3, ff_4]
    repeat (first | apply WK.seq | apply WK.block | apply WK.skipSeq | apply WK.skipBlock | apply WK.retSeq | apply WK.retBlock | apply WK.exitSeq | apply WK.exitHere | refine WK.exitOn rfl ?_ | ((first | (refine WK.rgn ?_ ?_; kernel_rfl) | refine AtCall.now ?_); simp (config := { maxSteps := 1000000 }) only [SS, forall_const, wx, tguard, acallee, top, tval, fput, tor, vsh, vbin, vun, tload, tload2, tload3, tstore, tstore2, tstore3, Go.AM.splice, one, tidx, tidx2, tidx3, tfa, tfa2, tlen2, tlen3, tpick, tbox, talloc, still, still1, flat1, tbuild, afill, tbs, tbs2, tap, tap2, tap3, tap4, tsrc, tsrc2, Int.reduceEq, Int.reduceNeg, Nat.reduceGT, Nat.reduceLT, Nat.reduceLeDiff, Nat.reduceEqDiff, ↓reduceIte, reduceCtorEq, Int.reduceToNat, Int.reduceLE, Int.reduceLT, Nat.reduceAdd, Nat.reduceMul, ff_4]) | (refine WK.condT ?_ ?_; focus (simp only [ev_tmp, ev_const, fset_apply, Nat.reduceEqDiff, ↓reduceIte, decide_true, decide_false, ff_4]; done)) | (refine WK.condF ?_ ?_; focus (simp only [ev_tmp, ev_const, fset_apply, Nat.reduceEqDiff, ↓reduceIte, decide_true, decide_false, ff_4]; done)))
    (first | refine WK.retNil ⟨Or.inr rfl, _, rfl, ?_, ?_⟩ | refine WK.skipNil ⟨Or.inl rfl, _, rfl, ?_, ?_⟩)
    · exact kB.keep
    · simp only [packed, fset_apply, Nat.reduceEqDiff, ↓reduceIte, List.getD_cons_zero, List.getD_cons_succ, ff_4]
  have hK : IntKind.i64.wrap ((N.length : Int) - 1) = ((N.length - 1 : Nat) : Int) := by rw [wrap_in (by omega) (by omega)]; omega
  have hK0 : (((N.length - 1 : Nat) : Int) = 0) = False := by simp only [eq_iff_iff, iff_false]; omega
  obtain ⟨ma, A, hm1, hA, hA0, hAN⟩ := pick_num za (K := N.length - 1) (by omega) (by omega)
  obtain ⟨mb, B, hm2, hB, hB0, hBN⟩ := pick_num zb (K := N.length - 1) (by omega) (by omega)
  have hA1 : A < N.length := by omega
  have hB1 : B < N.length := by omega
  simp (config := { maxSteps := 1000000 }) only [SS, forall_const, wx, tguard, acallee, top, tval, fput, tor, vsh, vbin, vun, tload, tload2, tload3, tstore, tstore2, tstore3, Go.AM.splice, one, tidx, tidx2, tidx3, tfa, tfa2, tlen2, tlen3, tpick, tbox, talloc, still, still1, flat1, tbuild, afill, tbs, tbs2, tap, tap2, tap3, tap4, tsrc, tsrc2, Int.reduceEq, Int.reduceNeg, Nat.reduceGT, Nat.reduceLT, Nat.reduceLeDiff, Nat.reduceEqDiff, ↓reduceIte, reduceCtorEq, Int.reduceToNat, Int.reduceLE, Int.reduceLT, Nat.reduceAdd, Nat.reduceMul, Bool.not_true, hb3, ac_0, ac_1, h3, ff_4]
  have q0 : ∀ ob, hset H3 n3 ob n0 = H3 n0 := fun ob => hset_ne _ _ _ (by omega)
  repeat (first | apply WK.seq | apply WK.block | apply WK.skipSeq | apply WK.skipBlock | apply WK.retSeq | apply WK.retBlock | apply WK.exitSeq | apply WK.exitHere | refine WK.exitOn rfl ?_ | ((first | (refine WK.rgn ?_ ?_; kernel_rfl) | refine AtCall.now ?_); simp (config := { maxSteps := 1000000 }) only [SS, forall_const, wx, tguard, acallee, top, tval, fput, tor, vsh, vbin, vun, tload, tload2, tload3, tstore, tstore2, tstore3, Go.AM.splice, one, tidx, tidx2, tidx3, tfa, tfa2, tlen2, tlen3, tpick, tbox, talloc, still, still1, flat1, tbuild, afill, tbs, tbs2, tap, tap2, tap3, tap4, tsrc, tsrc2, Int.reduceEq, Int.reduceNeg, Nat.reduceGT, Nat.reduceLT, Nat.reduceLeDiff, Nat.reduceEqDiff, ↓reduceIte, reduceCtorEq, Int.reduceToNat, Int.reduceLE, Int.reduceLT, Nat.reduceAdd, Nat.reduceMul, hb3, ac_0, ac_1, hK, hK0, hm1, hm2, hA, hB, q0, ff_4]) | (refine WK.condT ?_ ?_; focus (simp only [ev_tmp, ev_const, fset_apply, Nat.reduceEqDiff, ↓reduceIte, decide_true, decide_false, hb3, ac_0, ac_1, hK, hK0, hm1, hm2, hA, hB, q0, ff_4]; done)) | (refine WK.condF ?_ ?_; focus (simp only [ev_tmp, ev_const, fset_apply, Nat.reduceEqDiff, ↓reduceIte, decide_true, decide_false, hb3, ac_0, ac_1, hK, hK0, hm1, hm2, hA, hB, q0, ff_4]; done)))
  have i0 := hset_at H3 n3 (.cells [.slice none 0 0, .slice none 0 0] 25 true)
  have i1 := Kp.new n3 H3 (.cells [.slice none 0 0, .slice none 0 0] 25 true)
  generalize hset H3 n3 (.cells [.slice none 0 0, .slice none 0 0] 25 true) = H4 at *
  refine WK.loop (fun kk s => ∃ (i yn yq : Nat) (ys : Nat → Nat), i ≤ N.length ∧ Kp n3 H3 s.n s.H ∧ s.H n3 = .cells [sl yn i, sl yq i] 25 true ∧
    (i ≠ 0 → LL (n3 + 1) s.H yn 23 3 (fun z => [Value.int .i64 z]) (Mini.tN A B N i) ys ∧ s.H yq = .cells ((Mini.tR A B R i).map (Value.int .i64)) 3 true ∧ n3 + 1 ≤ yn ∧ n3 + 1 ≤ yq ∧ yn ≠ yq ∧ ∀ v, v < i → ys v ≠ yq) ∧
    s.f 1 = .int .i64 (A : Int) ∧ s.f 2 = .int .i64 (B : Int) ∧ s.f 3 = .pointer (some ⟨n0, 0, none⟩) ∧ s.f 8 = .pointer (some ⟨n3, 0, none⟩) ∧ s.f 49 = .int .i64 (N.length : Int) ∧ s.f 50 = .int .i64 (i : Int) ∧ kk = N.length - i) N.length ?_ ?_
  · exact ⟨0, 0, 0, fun _ => 0, Nat.zero_le _, i1, i0, fun h => absurd rfl h, rfl, rfl, rfl, rfl, rfl, rfl, rfl⟩
  clear i0 i1 H4
  rintro kk ⟨f, n5, H5⟩ ⟨i, yn, yq, ys, hi, k5, hout, hLL, f1, f2, f3, f8, f49, f50, rfl⟩ ih
  simp only at k5 hout hLL f1 f2 f3 f8 f49 f50 ih
  have hle5 := k5.le
  have kC := kB.trans k5
  have hw5 := kC.wf hw0
  have hb5 := (k5.keep n0 (by omega)).trans hb3
  have hn35 : n3 < n5 := live_lt0 hw5 (by rw [hout]; intro e; cases e)
  by_cases hil : i < N.length
  · have hil' : ((i : Int) < (N.length : Int)) = True := by simp only [eq_iff_iff, iff_true]; omega
    have h0i : (0 : Int) ≤ (i : Int) := Int.natCast_nonneg i
    repeat (first | apply WK.seq | apply WK.block | apply WK.skipSeq | apply WK.skipBlock | apply WK.retSeq | apply WK.retBlock | apply WK.exitSeq | apply WK.exitHere | refine WK.exitOn rfl ?_ | ((first | (refine WK.rgn ?_ ?_; kernel_rfl) | refine AtCall.now ?_); simp (config := { maxSteps := 1000000 }) only [SS, forall_const, wx, tguard, acallee, top, tval, fput, tor, vsh, vbin, vun, tload, tload2, tload3, tstore, tstore2, tstore3, Go.AM.splice, one, tidx, tidx2, tidx3, tfa, tfa2, tlen2, tlen3, tpick, tbox, talloc, still, still1, flat1, tbuild, afill, tbs, tbs2, tap, tap2, tap3, tap4, tsrc, tsrc2, Int.reduceEq, Int.reduceNeg, Nat.reduceGT, Nat.reduceLT, Nat.reduceLeDiff, Nat.reduceEqDiff, ↓reduceIte, reduceCtorEq, Int.reduceToNat, Int.reduceLE, Int.reduceLT, Nat.reduceAdd, Nat.reduceMul, f1, f2, f49, f50, hil', ff_4]) | (refine WK.condT ?_ ?_; focus (simp only [ev_tmp, ev_const, fset_apply, Nat.reduceEqDiff, ↓reduceIte, decide_true, decide_false, f1, f2, f49, f50, hil', ff_4]; done)) | (refine WK.condF ?_ ?_; focus (simp only [ev_tmp, ev_const, fset_apply, Nat.reduceEqDiff, ↓reduceIte, decide_true, decide_false, f1, f2, f49, f50, hil', ff_4]; done)))
    refine AtCall.by (swap_gives _ _ _ _ _) ?_
    rintro v n6 H6 k6 ⟨rfl, rfl, rfl⟩
    have hsw : swapI (i : Int) (A : Int) (B : Int) = ((Mini.swp A B i : Nat) : Int) := Mini.sw_nat A B i
    rw [hsw]
    have hsl := Mini.swp_lt hA1 hB1 hil
    obtain ⟨s, hs⟩ : ∃ s, Mini.swp A B i = s := ⟨_, rfl⟩
    rw [hs] at hsl ⊢
    obtain ⟨p, ci, hp⟩ := hr0 s hsl
    have hXw : N[s].length = w := by have := ok.row s hsl; rwa [Mini.getD_at [] hsl] at this
    rw [hXw] at ci
    have hsi : ((s : Int) < (N.length : Int)) = True := by simp only [eq_iff_iff, iff_true]; omega
    have h0s : (0 : Int) ≤ (s : Int) := Int.natCast_nonneg s
    have hxl := live_lt0 hw0 (z := xN) (by rw [hx0]; intro e; cases e)
    have hx5 : H6 xN = .cells csN tyN ownN := (kC.keep xN hxl).trans hx0
    have r1 : ∀ ob, hset H6 n6 ob n0 = H6 n0 := fun ob => hset_ne _ _ _ (by omega)
    have r2 : ∀ ob, hset H6 n6 ob xN = H6 xN := fun ob => hset_ne _ _ _ (by have := hk.le; omega)
    simp (config := { maxSteps := 1000000 }) only [SS, forall_const, wx, tguard, acallee, top, tval, fput, tor, vsh, vbin, vun, tload, tload2, tload3, tstore, tstore2, tstore3, Go.AM.splice, one, tidx, tidx2, tidx3, tfa, tfa2, tlen2, tlen3, tpick, tbox, talloc, still, still1, flat1, tbuild, afill, tbs, tbs2, tap, tap2, tap3, tap4, tsrc, tsrc2, Int.reduceEq, Int.reduceNeg, Nat.reduceGT, Nat.reduceLT, Nat.reduceLeDiff, Nat.reduceEqDiff, ↓reduceIte, reduceCtorEq, Int.reduceToNat, Int.reduceLE, Int.reduceLT, Nat.reduceAdd, Nat.reduceMul, ff_4]
    repeat (first | apply WK.seq | apply WK.block | apply WK.skipSeq | apply WK.skipBlock | apply WK.retSeq | apply WK.retBlock | apply WK.exitSeq | apply WK.exitHere | refine WK.exitOn rfl ?_ | ((first | (refine WK.rgn ?_ ?_; kernel_rfl) | refine AtCall.now ?_); simp (config := { maxSteps := 1000000 }) only [SS, forall_const, wx, tguard, acallee, top, tval, fput, tor, vsh, vbin, vun, tload, tload2, tload3, tstore, tstore2, tstore3, Go.AM.splice, one, tidx, tidx2, tidx3, tfa, tfa2, tlen2, tlen3, tpick, tbox, talloc, still, still1, flat1, tbuild, afill, tbs, tbs2, tap, tap2, tap3, tap4, tsrc, tsrc2, Int.reduceEq, Int.reduceNeg, Nat.reduceGT, Nat.reduceLT, Nat.reduceLeDiff, Nat.reduceEqDiff, ↓reduceIte, reduceCtorEq, Int.reduceToNat, Int.reduceLE, Int.reduceLT, Nat.reduceAdd, Nat.reduceMul, f3, hb5, ac_0, ac_1, hx5, ci, hsi, hsl, h0s, r1, r2, Int.toNat_natCast, ff_4]) | (refine WK.condT ?_ ?_; focus (simp only [ev_tmp, ev_const, fset_apply, Nat.reduceEqDiff, ↓reduceIte, decide_true, decide_false, f3, hb5, ac_0, ac_1, hx5, ci, hsi, hsl, h0s, r1, r2, Int.toNat_natCast, ff_4]; done)) | (refine WK.condF ?_ ?_; focus (simp only [ev_tmp, ev_const, fset_apply, Nat.reduceEqDiff, ↓reduceIte, decide_true, decide_false, f3, hb5, ac_0, ac_1, hx5, ci, hsi, hsl, h0s, r1, r2, Int.toNat_natCast, ff_4]; done)))
    have kR := Kp.new n6 H6 (.cells [] 3 true)
    have hyr := hset_at H6 n6 (.cells [] 3 true)
    generalize hset H6 n6 (.cells [] 3 true) = H7 at *
    obtain ⟨X, hX⟩ : ∃ X, N[s] = X := ⟨_, rfl⟩
    rw [hX] at hp hXw
    refine WK.loop (fun kk s' => ∃ (j xr : Nat), j ≤ w ∧ Kp n6 H6 s'.n s'.H ∧ n6 ≤ xr ∧ s'.H xr = .cells (((X.take j).map (Mini.sw A B)).map (Value.int .i64)) 3 true ∧
      s'.f 1 = .int .i64 (A : Int) ∧ s'.f 2 = .int .i64 (B : Int) ∧ s'.f 3 = .pointer (some ⟨n0, 0, none⟩) ∧ s'.f 8 = .pointer (some ⟨n3, 0, none⟩) ∧ s'.f 49 = .int .i64 (N.length : Int) ∧ s'.f 50 = .int .i64 (i : Int) ∧
      s'.f 10 = .int .i64 (s : Int) ∧ s'.f 11 = .slice (some ⟨xr, 0, none⟩) j j ∧ s'.f 62 = .slice p w w ∧ s'.f 63 = .int .i64 (w : Int) ∧ s'.f 64 = .int .i64 (j : Int) ∧ kk = w - j) w ?_ ?_
    · exact ⟨0, n6, Nat.zero_le _, kR, Nat.le_refl _, hyr, f1, f2, f3, f8, f49, f50, rfl, rfl, rfl, rfl, rfl, rfl⟩
    clear kR hyr H7 f1 f2 f3 f8 f49 f50
    rintro kk ⟨f, n7, H7⟩ ⟨j, xr, hj, k7, hxr, hrc, f1, f2, f3, f8, f49, f50, f10, f11, f62, f63, f64, rfl⟩ ih2
    simp only at k7 hrc f1 f2 f3 f8 f49 f50 f10 f11 f62 f63 f64 ih ih2
    have hw7 := k7.wf hw5
    have hle7 := k7.le
    have kF := kC.trans k7
    have hxr7 : xr < n7 := live_lt0 hw7 (by rw [hrc]; intro e; cases e)
    have hrl : (((X.take j).map (Mini.sw A B)).map (Value.int .i64)).length = j := by rw [List.length_map, List.length_map, List.length_take]; omega
    by_cases hjl : j < w
    · have hjl' : ((j : Int) < (w : Int)) = True := by simp only [eq_iff_iff, iff_true]; omega
      have h0j : (0 : Int) ≤ (j : Int) := Int.natCast_nonneg j
      have hjX : j < X.length := by omega
      obtain ⟨z, m, es, ty3, own3, rfl, hz, ej⟩ := (hp.mono hw0 kF).at hjX
      repeat (first | apply WK.seq | apply WK.block | apply WK.skipSeq | apply WK.skipBlock | apply WK.retSeq | apply WK.retBlock | apply WK.exitSeq | apply WK.exitHere | refine WK.exitOn rfl ?_ | ((first | (refine WK.rgn ?_ ?_; kernel_rfl) | refine AtCall.now ?_); simp (config := { maxSteps := 1000000 }) only [SS, forall_const, wx, tguard, acallee, top, tval, fput, tor, vsh, vbin, vun, tload, tload2, tload3, tstore, tstore2, tstore3, Go.AM.splice, one, tidx, tidx2, tidx3, tfa, tfa2, tlen2, tlen3, tpick, tbox, talloc, still, still1, flat1, tbuild, afill, tbs, tbs2, tap, tap2, tap3, tap4, tsrc, tsrc2, Int.reduceEq, Int.reduceNeg, Nat.reduceGT, Nat.reduceLT, Nat.reduceLeDiff, Nat.reduceEqDiff, ↓reduceIte, reduceCtorEq, Int.reduceToNat, Int.reduceLE, Int.reduceLT, Nat.reduceAdd, Nat.reduceMul, f1, f2, f11, f62, f63, f64, hjl', hjl, h0j, hz, ej, Int.toNat_natCast, Nat.zero_add, ff_4]) | (refine WK.condT ?_ ?_; focus (simp only [ev_tmp, ev_const, fset_apply, Nat.reduceEqDiff, ↓reduceIte, decide_true, decide_false, f1, f2, f11, f62, f63, f64, hjl', hjl, h0j, hz, ej, Int.toNat_natCast, Nat.zero_add, ff_4]; done)) | (refine WK.condF ?_ ?_; focus (simp only [ev_tmp, ev_const, fset_apply, Nat.reduceEqDiff, ↓reduceIte, decide_true, decide_false, f1, f2, f11, f62, f63, f64, hjl', hjl, h0j, hz, ej, Int.toNat_natCast, Nat.zero_add, ff_4]; done)))
      refine AtCall.by (swap_gives _ _ _ _ _) ?_
      rintro v n8 H8 k8 ⟨rfl, rfl, rfl⟩
      have hsw2 : swapI X[j] (A : Int) (B : Int) = Mini.sw A B X[j] := rfl
      rw [hsw2]
      have hct : [n8].contains xr = false := by simp; omega
      have hbg : j + 1 ≤ bigN := by unfold bigN; omega
      have hq : ∀ ob, hset H8 n8 ob xr = H8 xr := fun ob => hset_ne _ _ _ (by omega)
      simp (config := { maxSteps := 1000000 }) only [SS, forall_const, wx, tguard, acallee, top, tval, fput, tor, vsh, vbin, vun, tload, tload2, tload3, tstore, tstore2, tstore3, Go.AM.splice, one, tidx, tidx2, tidx3, tfa, tfa2, tlen2, tlen3, tpick, tbox, talloc, still, still1, flat1, tbuild, afill, tbs, tbs2, tap, tap2, tap3, tap4, tsrc, tsrc2, Int.reduceEq, Int.reduceNeg, Nat.reduceGT, Nat.reduceLT, Nat.reduceLeDiff, Nat.reduceEqDiff, ↓reduceIte, reduceCtorEq, Int.reduceToNat, Int.reduceLE, Int.reduceLT, Nat.reduceAdd, Nat.reduceMul, f11, hct, hbg, hq, hrc, hrl, hset_at, Nat.le_refl, ff_4]
      repeat (first | apply WK.seq | apply WK.block | apply WK.skipSeq | apply WK.skipBlock | apply WK.retSeq | apply WK.retBlock | apply WK.exitSeq | apply WK.exitHere | refine WK.exitOn rfl ?_ | ((first | (refine WK.rgn ?_ ?_; kernel_rfl) | refine AtCall.now ?_); simp (config := { maxSteps := 1000000 }) only [SS, forall_const, wx, tguard, acallee, top, tval, fput, tor, vsh, vbin, vun, tload, tload2, tload3, tstore, tstore2, tstore3, Go.AM.splice, one, tidx, tidx2, tidx3, tfa, tfa2, tlen2, tlen3, tpick, tbox, talloc, still, still1, flat1, tbuild, afill, tbs, tbs2, tap, tap2, tap3, tap4, tsrc, tsrc2, Int.reduceEq, Int.reduceNeg, Nat.reduceGT, Nat.reduceLT, Nat.reduceLeDiff, Nat.reduceEqDiff, ↓reduceIte, reduceCtorEq, Int.reduceToNat, Int.reduceLE, Int.reduceLT, Nat.reduceAdd, Nat.reduceMul, f64, ff_4]) | (refine WK.condT ?_ ?_; focus (simp only [ev_tmp, ev_const, fset_apply, Nat.reduceEqDiff, ↓reduceIte, decide_true, decide_false, f64, ff_4]; done)) | (refine WK.condF ?_ ?_; focus (simp only [ev_tmp, ev_const, fset_apply, Nat.reduceEqDiff, ↓reduceIte, decide_true, decide_false, f64, ff_4]; done)))
      refine ih2 (w - (j + 1)) (by omega) _ ?_
      refine ⟨j + 1, n8 + 1, hjl, ((k7.trans (Kp.new n8 H8 _)).set .dead hxr (by omega)).trans (Kp.new _ _ _), by omega, ?_, f1, f2, f3, f8, f49, f50, f10, rfl, f62, f63, ?_, rfl⟩
      · refine (hset_at _ _ _).trans ?_
        rw [List.take_succ_eq_append_getElem hjX, List.map_append, List.map_append, List.drop_zero, List.take_of_length_le (by rw [hrl]; exact Nat.le_refl _)]; rfl
      · simp only [packed, fset_apply, Nat.reduceEqDiff, ↓reduceIte, List.getD_cons_zero, List.getD_cons_succ, wrap_up hjl (show w ≤ maxL by unfold maxL; omega), ff_4]
    · have hjl' : ((j : Int) < (w : Int)) = False := by simp only [eq_iff_iff, iff_false]; omega
      have hje : j = w := by omega
      subst hje
      have hXt : X.take j = X := List.take_of_length_le (by omega)
      rw [hXt] at hrc hrl
      have htr : X.map (Mini.sw A B) = Mini.trow A B N i := by unfold Mini.trow; rw [hs, Mini.getD_at [] hsl, hX]
      rw [htr] at hrc hrl
      have hrl' : (Mini.trow A B N i).length = j := by rw [← hrl, List.length_map]
      have hout7 : H7 n3 = .cells [sl yn i, sl yq i] 25 true := (k7.keep n3 (by omega)).trans hout
      have hb7 := (k7.keep n0 (by omega)).trans hb5
      have hsR : s < R.length := by have := ok.len; omega
      obtain ⟨yR, lR, dR, tyR, ownR, hbR, hyR0, eR⟩ := hR0.at hsR
      subst hbR
      have hyRl : yR < n0 := live_lt0 hw0 (by rw [hyR0]; intro e; cases e)
      have hyR := (kF.keep yR hyRl).trans hyR0
      have hsR' : ((s : Int) < (R.length : Int)) = True := by simp only [eq_iff_iff, iff_true]; omega
      have hle1 := hk.le
      have w1 : ∀ (H' : Heap) ob, hset H' n7 ob n3 = H' n3 := fun H' ob => hset_ne _ _ _ (by omega)
      have w2 : ∀ (H' : Heap) ob, hset H' (n7 + 1) ob n3 = H' n3 := fun H' ob => hset_ne _ _ _ (by omega)
      have w3 : ∀ (H' : Heap) ob, hset H' (n7 + 1 + 1) ob n3 = H' n3 := fun H' ob => hset_ne _ _ _ (by omega)
      have w4 : ∀ (H' : Heap) ob, hset H' (n7 + 1 + 1 + 1) ob n3 = H' n3 := fun H' ob => hset_ne _ _ _ (by omega)
      have w5 : ∀ (H' : Heap) ob, hset H' n7 ob n0 = H' n0 := fun H' ob => hset_ne _ _ _ (by omega)
      have w6 : ∀ (H' : Heap) ob, hset H' (n7 + 1) ob n0 = H' n0 := fun H' ob => hset_ne _ _ _ (by omega)
      have w7 : ∀ (H' : Heap) ob, hset H' (n7 + 1 + 1) ob n0 = H' n0 := fun H' ob => hset_ne _ _ _ (by omega)
      have w8 : ∀ (H' : Heap) ob, hset H' (n7 + 1 + 1 + 1) ob n0 = H' n0 := fun H' ob => hset_ne _ _ _ (by omega)
      have w9 : ∀ (H' : Heap) ob, hset H' n7 ob xr = H' xr := fun H' ob => hset_ne _ _ _ (by omega)
      have w10 : ∀ (H' : Heap) ob, hset H' (n7 + 1) ob xr = H' xr := fun H' ob => hset_ne _ _ _ (by omega)
      have w11 : ∀ (H' : Heap) ob, hset H' (n7 + 1 + 1) ob xr = H' xr := fun H' ob => hset_ne _ _ _ (by omega)
      have w12 : ∀ (H' : Heap) ob, hset H' (n7 + 1 + 1 + 1) ob xr = H' xr := fun H' ob => hset_ne _ _ _ (by omega)
      have w13 : ∀ (H' : Heap) ob, hset H' n7 ob yR = H' yR := fun H' ob => hset_ne _ _ _ (by omega)
      have w14 : ∀ (H' : Heap) ob, hset H' (n7 + 1) ob yR = H' yR := fun H' ob => hset_ne _ _ _ (by omega)
      have w15 : ∀ (H' : Heap) ob, hset H' (n7 + 1 + 1) ob yR = H' yR := fun H' ob => hset_ne _ _ _ (by omega)
      have w16 : ∀ (H' : Heap) ob, hset H' (n7 + 1 + 1 + 1) ob yR = H' yR := fun H' ob => hset_ne _ _ _ (by omega)
      have w17 : ∀ (H' : Heap) ob, hset H' (n7 + 1) ob n7 = H' n7 := fun H' ob => hset_ne _ _ _ (by omega)
      have w18 : ∀ (H' : Heap) ob, hset H' (n7 + 1 + 1) ob (n7 + 1) = H' (n7 + 1) := fun H' ob => hset_ne _ _ _ (by omega)
      have w19 : ∀ (H' : Heap) ob, hset H' (n7 + 1 + 1 + 1) ob (n7 + 1 + 1) = H' (n7 + 1 + 1) := fun H' ob => hset_ne _ _ _ (by omega)
      have w20 : ∀ (H' : Heap) ob, hset H' n3 ob n0 = H' n0 := fun H' ob => hset_ne _ _ _ (by omega)
      have hfm : ∀ l : List Int, (l.flatMap fun z => [Value.int .i64 z]) = l.map (Value.int .i64) := fun l => by
        induction l with
        | nil => rfl
        | cons z l ihl => rw [List.flatMap_cons, ihl]; rfl
      have hjp : j ≠ 0 := by have := ok.wpos; omega
      have hrs : Mini.tR A B R (i + 1) = Mini.tR A B R i ++ [R[s]] := by rw [Mini.tR_snoc, hs, Mini.at1_at hsR]
      have hrn : Mini.tN A B N (i + 1) = Mini.tN A B N i ++ [Mini.trow A B N i] := Mini.tN_snoc ..
      have hrwl : (Mini.tN A B N i).length = i := Mini.tN_len ..
      have hrne : ∀ u (hu : u < (Mini.tN A B N i).length), (Mini.tN A B N i)[u] ≠ [] := fun u hu e => by
        have hu' : u < i := by omega
        have h1 := Mini.tN_at (a := A) (b := B) (N := N) hu'
        rw [Mini.getD_at [] hu, e] at h1
        have h2 : (Mini.trow A B N u).length = j := by unfold Mini.trow; rw [List.length_map]; exact ok.row _ (Mini.swp_lt hA1 hB1 (by omega))
        rw [← h1] at h2
        exact hjp h2.symm
      by_cases hi0 : i = 0
      · subst hi0
        repeat (first | apply WK.seq | apply WK.block | apply WK.skipSeq | apply WK.skipBlock | apply WK.retSeq | apply WK.retBlock | apply WK.exitSeq | apply WK.exitHere | refine WK.exitOn rfl ?_)
        (refine WK.rgn ?_ ?_; kernel_rfl; simp (config := { maxSteps := 1000000 }) only [SS, forall_const, wx, tguard, acallee, top, tval, fput, tor, vsh, vbin, vun, tload, tload2, tload3, tstore, tstore2, tstore3, Go.AM.splice, one, tidx, tidx2, tidx3, tfa, tfa2, tlen2, tlen3, tpick, tbox, talloc, still, still1, flat1, tbuild, afill, tbs, tbs2, tap, tap2, tap3, tap4, tsrc, tsrc2, Int.reduceEq, Int.reduceNeg, Nat.reduceGT, Nat.reduceLT, Nat.reduceLeDiff, Nat.reduceEqDiff, ↓reduceIte, reduceCtorEq, Int.reduceToNat, Int.reduceLE, Int.reduceLT, Nat.reduceAdd, Nat.reduceMul, f63, f64, hjl', ff_4])
        repeat (first | apply WK.seq | apply WK.block | apply WK.skipSeq | apply WK.skipBlock | apply WK.retSeq | apply WK.retBlock | apply WK.exitSeq | apply WK.exitHere | refine WK.exitOn rfl ?_)
        first | (refine WK.condT ?_ ?_; focus (simp only [ev_tmp, ev_const, fset_apply, Nat.reduceEqDiff, ↓reduceIte, decide_true, decide_false, hjl']; done)) | (refine WK.condF ?_ ?_; focus (simp only [ev_tmp, ev_const, fset_apply, Nat.reduceEqDiff, ↓reduceIte, decide_true, decide_false, hjl']; done))
        repeat (first | apply WK.seq | apply WK.block | apply WK.skipSeq | apply WK.skipBlock | apply WK.retSeq | apply WK.retBlock | apply WK.exitSeq | apply WK.exitHere | refine WK.exitOn rfl ?_)
        have a1 : (bigN < 1) = False := by simp [bigN]
        have a2 : ((1 : Nat) = 0) = False := by simp
        (refine WK.rgl [(4, 6), (4, 8), (4, 11)] (by kernel_rfl) ?_; simp (config := { maxSteps := 1000000 }) only [wl, wl1_false, wl1_true, wl2_none, wl2_some, wl3_some, wl3_none, SS, forall_const, wx, tguard, acallee, top, tval, fput, tor, vsh, vbin, vun, tload, tload2, tload3, tstore, tstore2, tstore3, Go.AM.splice, one, tidx, tidx2, tidx3, tfa, tfa2, tlen2, tlen3, tpick, tbox, talloc, still, still1, flat1, tbuild, afill, tbs, tbs2, tap, tap2, tap3, tap4, tsrc, tsrc2, Int.reduceEq, Int.reduceNeg, Nat.reduceGT, Nat.reduceLT, Nat.reduceLeDiff, Nat.reduceEqDiff, ↓reduceIte, reduceCtorEq, Int.reduceToNat, Int.reduceLE, Int.reduceLT, Nat.reduceAdd, Nat.reduceMul, f3, f8, f10, f11, hout7, hb7, ac_0, ac_1, sl_zero, hrc, hsR, hsR', hyR, eR, h0s, a1, a2, hset_at, w1, w2, w3, w4, w5, w6, w7, w8, w9, w10, w11, w12, w13, w14, w15, w16, w17, w18, w19, w20, Int.toNat_natCast, Nat.zero_add, ff_4])
        refine ⟨light_cons rfl rfl (lapart_rr) (light_cons rfl rfl (lapart_rr) (light_cons rfl rfl (lapart_rr) light_nil)), ?_⟩
        repeat (first | apply WK.seq | apply WK.block | apply WK.skipSeq | apply WK.skipBlock | apply WK.retSeq | apply WK.retBlock | apply WK.exitSeq | apply WK.exitHere | refine WK.exitOn rfl ?_ | ((first | (refine WK.rgn ?_ ?_; kernel_rfl) | refine AtCall.now ?_); simp (config := { maxSteps := 1000000 }) only [SS, forall_const, wx, tguard, acallee, top, tval, fput, tor, vsh, vbin, vun, tload, tload2, tload3, tstore, tstore2, tstore3, Go.AM.splice, one, tidx, tidx2, tidx3, tfa, tfa2, tlen2, tlen3, tpick, tbox, talloc, still, still1, flat1, tbuild, afill, tbs, tbs2, tap, tap2, tap3, tap4, tsrc, tsrc2, Int.reduceEq, Int.reduceNeg, Nat.reduceGT, Nat.reduceLT, Nat.reduceLeDiff, Nat.reduceEqDiff, ↓reduceIte, reduceCtorEq, Int.reduceToNat, Int.reduceLE, Int.reduceLT, Nat.reduceAdd, Nat.reduceMul, f50, ff_4]) | (refine WK.condT ?_ ?_; focus (simp only [ev_tmp, ev_const, fset_apply, Nat.reduceEqDiff, ↓reduceIte, decide_true, decide_false, f50, ff_4]; done)) | (refine WK.condF ?_ ?_; focus (simp only [ev_tmp, ev_const, fset_apply, Nat.reduceEqDiff, ↓reduceIte, decide_true, decide_false, f50, ff_4]; done)))
        refine ih (N.length - (0 + 1)) (by omega) _ ?_
        refine ⟨0 + 1, n7 + 1, n7 + 1 + 1 + 1, upd ys 0 xr, hil, ?_, ?_, fun _ => ⟨?_, ?_, by omega, by omega, by omega, ?_⟩, f1, f2, f3, f8, f49, ?_, rfl⟩
        · exact ((((k5.trans k7).kx (X := fun z => n3 ≤ z)).trans ((((Kp.new n7 H7 _).trans (Kp.new _ _ _)).trans (Kp.new _ _ _)).trans (Kp.new _ _ _)).kx).set _ (.inl (Nat.le_refl _)) (by omega)).kp fun z hz h => by omega
        · exact hset_at _ _ _
        · rw [hrn]
          have e : upd ys 0 xr = upd ys (Mini.tN A B N 0).length xr := rfl
          rw [e]
          refine LL.push (H := H6) (x := 0) (fun h => absurd rfl h) (fun _ => ?_) (fun _ => by omega) (fun _ => by omega) ?_ (fun u hu => absurd hu (Nat.not_lt_zero _)) (fun u hu => absurd hu (Nat.not_lt_zero _)) (fun u hu => absurd hu (Nat.not_lt_zero _))
          · rw [hfm]
            exact (hset_ne _ _ _ (by omega)).trans ((hset_ne _ _ _ (by omega)).trans ((hset_ne _ _ _ (by omega)).trans ((hset_ne _ _ _ (by omega)).trans ((hset_ne _ _ _ (by omega)).trans hrc))))
          · refine (hset_ne _ _ _ (by omega)).trans ((hset_ne _ _ _ (by omega)).trans ((hset_ne _ _ _ (by omega)).trans ((hset_at _ _ _).trans ?_)))
            rw [hrl', sl_pos hjp]; rfl
        · refine (hset_ne _ _ _ (by omega)).trans ((hset_at _ _ _).trans ?_)
          rw [hrs]; rfl
        · intro v hv
          have : v = 0 := by omega
          subst this
          rw [upd_at]
          omega
        · simp only [packed, fset_apply, Nat.reduceEqDiff, ↓reduceIte, List.getD_cons_zero, List.getD_cons_succ, ff_4]
          rfl
      · obtain ⟨hll, hyq, l2, l3, l5, l6⟩ := hLL hi0
        have hyn7 : yn < n6 := live_lt0 hw5 (by rw [hll.hx]; intro e; cases e)
        have hyq7 : yq < n6 := live_lt0 hw5 (by rw [hyq]; intro e; cases e)
        have w21 : ∀ (H' : Heap) ob, hset H' yn ob n3 = H' n3 := fun H' ob => hset_ne _ _ _ (by omega)
        have w22 : ∀ (H' : Heap) ob, hset H' yn ob n0 = H' n0 := fun H' ob => hset_ne _ _ _ (by omega)
        have w23 : ∀ (H' : Heap) ob, hset H' yn ob xr = H' xr := fun H' ob => hset_ne _ _ _ (by omega)
        have w24 : ∀ (H' : Heap) ob, hset H' yn ob yR = H' yR := fun H' ob => hset_ne _ _ _ (by omega)
        have w25 : ∀ (H' : Heap) ob, hset H' yn ob n7 = H' n7 := fun H' ob => hset_ne _ _ _ (by omega)
        have w26 : ∀ (H' : Heap) ob, hset H' yn ob (n7 + 1) = H' (n7 + 1) := fun H' ob => hset_ne _ _ _ (by omega)
        have w27 : ∀ (H' : Heap) ob, hset H' yn ob (n7 + 1 + 1) = H' (n7 + 1 + 1) := fun H' ob => hset_ne _ _ _ (by omega)
        have w28 : ∀ (H' : Heap) ob, hset H' yn ob yq = H' yq := fun H' ob => hset_ne _ _ _ (by omega)
        have w29 : ∀ (H' : Heap) ob, hset H' yq ob n3 = H' n3 := fun H' ob => hset_ne _ _ _ (by omega)
        have w30 : ∀ (H' : Heap) ob, hset H' yq ob n0 = H' n0 := fun H' ob => hset_ne _ _ _ (by omega)
        have w31 : ∀ (H' : Heap) ob, hset H' yq ob xr = H' xr := fun H' ob => hset_ne _ _ _ (by omega)
        have w32 : ∀ (H' : Heap) ob, hset H' yq ob yR = H' yR := fun H' ob => hset_ne _ _ _ (by omega)
        have w33 : ∀ (H' : Heap) ob, hset H' yq ob n7 = H' n7 := fun H' ob => hset_ne _ _ _ (by omega)
        have w34 : ∀ (H' : Heap) ob, hset H' yq ob (n7 + 1) = H' (n7 + 1) := fun H' ob => hset_ne _ _ _ (by omega)
        have w35 : ∀ (H' : Heap) ob, hset H' yq ob (n7 + 1 + 1) = H' (n7 + 1 + 1) := fun H' ob => hset_ne _ _ _ (by omega)
        have w36 : ∀ (H' : Heap) ob, hset H' n7 ob yn = H' yn := fun H' ob => hset_ne _ _ _ (by omega)
        have w37 : ∀ (H' : Heap) ob, hset H' n7 ob yq = H' yq := fun H' ob => hset_ne _ _ _ (by omega)
        have w38 : ∀ (H' : Heap) ob, hset H' (n7 + 1) ob yn = H' yn := fun H' ob => hset_ne _ _ _ (by omega)
        have w39 : ∀ (H' : Heap) ob, hset H' (n7 + 1) ob yq = H' yq := fun H' ob => hset_ne _ _ _ (by omega)
        have w40 : ∀ (H' : Heap) ob, hset H' (n7 + 1 + 1) ob yn = H' yn := fun H' ob => hset_ne _ _ _ (by omega)
        have w41 : ∀ (H' : Heap) ob, hset H' (n7 + 1 + 1) ob yq = H' yq := fun H' ob => hset_ne _ _ _ (by omega)
        rw [sl_pos hi0, sl_pos hi0] at hout7
        have kyn := (k7.keep yn hyn7).trans hll.hx
        have kyq := (k7.keep yq hyq7).trans hyq
        have c1 : (llcells ys (Mini.tN A B N i)).length = i := by rw [llcells_length]; exact hrwl
        have c2 : ((Mini.tR A B R i).map (Value.int .i64)).length = i := by rw [List.length_map, Mini.tR_len]
        have c3 : (llcells ys (Mini.tN A B N i)).take i = llcells ys (Mini.tN A B N i) := List.take_of_length_le (by omega)
        have c4 : ((Mini.tR A B R i).map (Value.int .i64)).take i = (Mini.tR A B R i).map (Value.int .i64) := List.take_of_length_le (by omega)
        have c5 : i + 1 ≤ bigN := by unfold bigN; omega
        have c6 : [n7].contains yn = false := by simp; omega
        have c7 : [n7 + 1 + 1].contains yq = false := by simp; omega
        repeat (first | apply WK.seq | apply WK.block | apply WK.skipSeq | apply WK.skipBlock | apply WK.retSeq | apply WK.retBlock | apply WK.exitSeq | apply WK.exitHere | refine WK.exitOn rfl ?_)
        (refine WK.rgn ?_ ?_; kernel_rfl; simp (config := { maxSteps := 1000000 }) only [SS, forall_const, wx, tguard, acallee, top, tval, fput, tor, vsh, vbin, vun, tload, tload2, tload3, tstore, tstore2, tstore3, Go.AM.splice, one, tidx, tidx2, tidx3, tfa, tfa2, tlen2, tlen3, tpick, tbox, talloc, still, still1, flat1, tbuild, afill, tbs, tbs2, tap, tap2, tap3, tap4, tsrc, tsrc2, Int.reduceEq, Int.reduceNeg, Nat.reduceGT, Nat.reduceLT, Nat.reduceLeDiff, Nat.reduceEqDiff, ↓reduceIte, reduceCtorEq, Int.reduceToNat, Int.reduceLE, Int.reduceLT, Nat.reduceAdd, Nat.reduceMul, f63, f64, hjl', ff_4])
        repeat (first | apply WK.seq | apply WK.block | apply WK.skipSeq | apply WK.skipBlock | apply WK.retSeq | apply WK.retBlock | apply WK.exitSeq | apply WK.exitHere | refine WK.exitOn rfl ?_)
        first | (refine WK.condT ?_ ?_; focus (simp only [ev_tmp, ev_const, fset_apply, Nat.reduceEqDiff, ↓reduceIte, decide_true, decide_false, hjl']; done)) | (refine WK.condF ?_ ?_; focus (simp only [ev_tmp, ev_const, fset_apply, Nat.reduceEqDiff, ↓reduceIte, decide_true, decide_false, hjl']; done))
        repeat (first | apply WK.seq | apply WK.block | apply WK.skipSeq | apply WK.skipBlock | apply WK.retSeq | apply WK.retBlock | apply WK.exitSeq | apply WK.exitHere | refine WK.exitOn rfl ?_)
        (refine WK.rgl [(4, 6), (4, 8), (4, 11)] (by kernel_rfl) ?_; simp (config := { maxSteps := 1000000 }) only [wl, wl1_false, wl1_true, wl2_none, wl2_some, wl3_some, wl3_none, SS, forall_const, wx, tguard, acallee, top, tval, fput, tor, vsh, vbin, vun, tload, tload2, tload3, tstore, tstore2, tstore3, Go.AM.splice, one, tidx, tidx2, tidx3, tfa, tfa2, tlen2, tlen3, tpick, tbox, talloc, still, still1, flat1, tbuild, afill, tbs, tbs2, tap, tap2, tap3, tap4, tsrc, tsrc2, Int.reduceEq, Int.reduceNeg, Nat.reduceGT, Nat.reduceLT, Nat.reduceLeDiff, Nat.reduceEqDiff, ↓reduceIte, reduceCtorEq, Int.reduceToNat, Int.reduceLE, Int.reduceLT, Nat.reduceAdd, Nat.reduceMul, f3, f8, f10, f11, hout7, hb7, ac_0, ac_1, sl_zero, hrc, hsR, hsR', hyR, eR, h0s, kyn, kyq, c1, c2, c3, c4, c5, c6, c7, hset_at, w1, w2, w3, w4, w5, w6, w7, w8, w9, w10, w11, w12, w13, w14, w15, w16, w17, w18, w19, w20, w21, w22, w23, w24, w25, w26, w27, w28, w29, w30, w31, w32, w33, w34, w35, w36, w37, w38, w39, w40, w41, Nat.le_refl, List.drop_zero, Int.toNat_natCast, Nat.zero_add, ff_4])
        refine ⟨light_cons rfl rfl (lapart_wr (by simp; omega)) (light_cons rfl rfl (lapart_wr (by simp; omega)) (light_cons rfl rfl (lapart_wr (by simp; omega)) light_nil)), ?_⟩
        repeat (first | apply WK.seq | apply WK.block | apply WK.skipSeq | apply WK.skipBlock | apply WK.retSeq | apply WK.retBlock | apply WK.exitSeq | apply WK.exitHere | refine WK.exitOn rfl ?_ | ((first | (refine WK.rgn ?_ ?_; kernel_rfl) | refine AtCall.now ?_); simp (config := { maxSteps := 1000000 }) only [SS, forall_const, wx, tguard, acallee, top, tval, fput, tor, vsh, vbin, vun, tload, tload2, tload3, tstore, tstore2, tstore3, Go.AM.splice, one, tidx, tidx2, tidx3, tfa, tfa2, tlen2, tlen3, tpick, tbox, talloc, still, still1, flat1, tbuild, afill, tbs, tbs2, tap, tap2, tap3, tap4, tsrc, tsrc2, Int.reduceEq, Int.reduceNeg, Nat.reduceGT, Nat.reduceLT, Nat.reduceLeDiff, Nat.reduceEqDiff, ↓reduceIte, reduceCtorEq, Int.reduceToNat, Int.reduceLE, Int.reduceLT, Nat.reduceAdd, Nat.reduceMul, f50, ff_4]) | (refine WK.condT ?_ ?_; focus (simp only [ev_tmp, ev_const, fset_apply, Nat.reduceEqDiff, ↓reduceIte, decide_true, decide_false, f50, ff_4]; done)) | (refine WK.condF ?_ ?_; focus (simp only [ev_tmp, ev_const, fset_apply, Nat.reduceEqDiff, ↓reduceIte, decide_true, decide_false, f50, ff_4]; done)))
        have hylt : ∀ u (hu : u < (Mini.tN A B N i).length), ys u < n6 ∧ n3 + 1 ≤ ys u ∧ ys u ≠ yq ∧ ys u ≠ yn := fun u hu => ⟨hll.lty hw5 hu (hrne u hu), hll.fy u hu (hrne u hu), l6 u (by omega), hll.ne u hu (hrne u hu)⟩
        refine ih (N.length - (i + 1)) (by omega) _ ?_
        refine ⟨i + 1, n7 + 1, n7 + 1 + 1 + 1, upd ys i xr, hil, ?_, ?_, fun _ => ⟨?_, ?_, by omega, by omega, by omega, ?_⟩, f1, f2, f3, f8, f49, ?_, rfl⟩
        · exact (((((((k5.trans k7).kx (X := fun z => n3 ≤ z)).trans (Kp.new n7 H7 _).kx).set (x := yn) .dead (.inl (by omega)) (by omega)).trans ((Kp.new (n7 + 1) _ _).trans (Kp.new _ _ _)).kx).set (x := yq) .dead (.inl (by omega)) (by omega)).trans (Kp.new (n7 + 1 + 1 + 1) _ _).kx |>.set _ (.inl (Nat.le_refl _)) (by omega)).kp fun z hz h => by omega
        · refine (hset_at _ _ _).trans ?_
          rw [sl_pos (by omega), sl_pos (by omega)]
        · rw [hrn]
          have e : upd ys i xr = upd ys (Mini.tN A B N i).length xr := by rw [hrwl]
          rw [e]
          refine LL.push (H := H6) (x := yn) (fun _ => hll) (fun _ => ?_) (fun _ => by omega) (fun _ => by omega) ?_ (fun u hu _ => by have := hylt u hu; omega) (fun u hu _ => by have := hylt u hu; omega) (fun u hu _ => ?_)
          · rw [hfm]
            exact (hset_ne _ _ _ (by omega)).trans ((hset_ne _ _ _ (by omega)).trans ((hset_ne _ _ _ (by omega)).trans ((hset_ne _ _ _ (by omega)).trans ((hset_ne _ _ _ (by omega)).trans ((hset_ne _ _ _ (by omega)).trans ((hset_ne _ _ _ (by omega)).trans hrc))))))
          · refine (hset_ne _ _ _ (by omega)).trans ((hset_ne _ _ _ (by omega)).trans ((hset_ne _ _ _ (by omega)).trans ((hset_ne _ _ _ (by omega)).trans ((hset_at _ _ _).trans ?_))))
            rw [hrl', sl_pos hjp]; rfl
          · obtain ⟨v1, v2, v3, v4⟩ := hylt u hu
            exact (hset_ne _ _ _ (by omega)).trans ((hset_ne _ _ _ (by omega)).trans ((hset_ne _ _ _ v3).trans ((hset_ne _ _ _ (by omega)).trans ((hset_ne _ _ _ (by omega)).trans ((hset_ne _ _ _ v4).trans ((hset_ne _ _ _ (by omega)).trans (k7.keep _ v1)))))))
        · refine (hset_ne _ _ _ (by omega)).trans ((hset_at _ _ _).trans ?_)
          rw [hrs, List.map_append]; rfl
        · intro v hv
          by_cases e : v = i
          · subst e
            rw [upd_at]
            omega
          · rw [upd_ne _ _ _ e]
            have := hylt v (by omega)
            omega
        · simp only [packed, fset_apply, Nat.reduceEqDiff, ↓reduceIte, List.getD_cons_zero, List.getD_cons_succ, wrap_up hil (show N.length ≤ maxL by unfold maxL; omega), ff_4]
  · have hil' : ((i : Int) < (N.length : Int)) = False := by simp only [eq_iff_iff, iff_false]; omega
    have hie : i = N.length := by omega
    have hi0 : i ≠ 0 := by omega
    obtain ⟨hll, hyq, l2, l3, l5, l6⟩ := hLL hi0
    rw [hie] at hll hyq
    have okT := Mini.turn_ok ok hA1 hB1 hA0 hB0
    have iso := Mini.turn_iso ok hA1 hB1 hA0 hB0
    have hTl : (Mini.tN A B N N.length).length = N.length := Mini.tN_len ..
    have hTr : (Mini.tR A B R N.length).length = N.length := Mini.tR_len ..
    have hac : [sl yn i, sl yq i] = acells (some ⟨yn, 0, none⟩) (some ⟨yq, 0, none⟩) (Mini.tN A B N N.length) (Mini.tR A B R N.length) := by unfold acells; rw [sl_pos hi0, sl_pos hi0, hTl, hTr, hie]
    rw [hac] at hout
    have hrE : RD H5 (.agg (acells (some ⟨yn, 0, none⟩) (some ⟨yq, 0, none⟩) (Mini.tN A B N N.length) (Mini.tR A B R N.length)).toArray) (Mini.tN A B N N.length) (Mini.tR A B R N.length) :=
      ⟨_, _, rfl, hll.r2, fun _ => ⟨yq, 0, _, 3, true, rfl, hyq, fun q y e => by rw [Nat.zero_add, List.getElem?_map, e]; rfl⟩⟩
    have wsE : WA (Mini.tN A B N N.length) (Mini.tR A B R N.length) := wa_of_ok okT (by omega) (by omega) fun y hy => by
      obtain ⟨u, hu, rfl⟩ := List.mem_map.1 hy
      have h1 := ok.len
      have h2 := Mini.swp_lt hA1 hB1 (List.mem_range.1 hu)
      rw [Mini.at1_at (by omega)]
      exact ws.rule _ (List.getElem_mem _)
    have hw0T : ((Mini.tN A B N N.length).getD 0 []).length = w := okT.row 0 okT.pos
    have hriT : Mini.rightB (Mini.tN A B N N.length) (Mini.tR A B R N.length) = true := (Mini.rightB_iff _ _).2 (by rw [hw0T]; exact okT)
    have hsim := iso.sim ok hpos
    rw [iso.zero] at hsim
    have hsameL := fun M M' Q Q' => @Mini.Least.same N (Mini.tN A B N N.length) R (Mini.tR A B R N.length) w (Mini.swp A B) ok okT iso M M' Q Q'
    clear hLL hac ih
    generalize Mini.tN A B N N.length = N' at *
    generalize Mini.tR A B R N.length = R' at *
    repeat (first | apply WK.seq | apply WK.block | apply WK.skipSeq | apply WK.skipBlock | apply WK.retSeq | apply WK.retBlock | apply WK.exitSeq | apply WK.exitHere | refine WK.exitOn rfl ?_ | ((first | (refine WK.rgn ?_ ?_; kernel_rfl) | refine AtCall.now ?_); simp (config := { maxSteps := 1000000 }) only [SS, forall_const, wx, tguard, acallee, top, tval, fput, tor, vsh, vbin, vun, tload, tload2, tload3, tstore, tstore2, tstore3, Go.AM.splice, one, tidx, tidx2, tidx3, tfa, tfa2, tlen2, tlen3, tpick, tbox, talloc, still, still1, flat1, tbuild, afill, tbs, tbs2, tap, tap2, tap3, tap4, tsrc, tsrc2, Int.reduceEq, Int.reduceNeg, Nat.reduceGT, Nat.reduceLT, Nat.reduceLeDiff, Nat.reduceEqDiff, ↓reduceIte, reduceCtorEq, Int.reduceToNat, Int.reduceLE, Int.reduceLT, Nat.reduceAdd, Nat.reduceMul, f3, f49, f50, hil', hb5, ac_all, ac_len, ff_4]) | (refine WK.condT ?_ ?_; focus (simp only [ev_tmp, ev_const, fset_apply, Nat.reduceEqDiff, ↓reduceIte, decide_true, decide_false, f3, f49, f50, hil', hb5, ac_all, ac_len, ff_4]; done)) | (refine WK.condF ?_ ?_; focus (simp only [ev_tmp, ev_const, fset_apply, Nat.reduceEqDiff, ↓reduceIte, decide_true, decide_false, f3, f49, f50, hil', hb5, ac_all, ac_len, ff_4]; done)))
    refine AtCall.by (least_gives hw5 (hT0.kp hw0 kC) (hd0.mono hw0 kC) ws (by omega) (by omega)) ?_
    rintro v n6 H6 k6 ⟨M, Q, hdM, _, hT⟩
    have hL := hT hri
    rw [← hw] at hL
    have kD := kC.trans k6
    have hw6' := k6.wf hw5
    have hle6 := k6.le
    have hb6 := (k6.keep n0 (by omega)).trans hb5
    have ho6 := (k6.keep n3 (by omega)).trans hout
    simp (config := { maxSteps := 1000000 }) only [SS, forall_const, wx, tguard, acallee, top, tval, fput, tor, vsh, vbin, vun, tload, tload2, tload3, tstore, tstore2, tstore3, Go.AM.splice, one, tidx, tidx2, tidx3, tfa, tfa2, tlen2, tlen3, tpick, tbox, talloc, still, still1, flat1, tbuild, afill, tbs, tbs2, tap, tap2, tap3, tap4, tsrc, tsrc2, Int.reduceEq, Int.reduceNeg, Nat.reduceGT, Nat.reduceLT, Nat.reduceLeDiff, Nat.reduceEqDiff, ↓reduceIte, reduceCtorEq, Int.reduceToNat, Int.reduceLE, Int.reduceLT, Nat.reduceAdd, Nat.reduceMul, f8, ho6, ac_all, ac_len, ff_4]
    refine AtCall.by (least_gives hw6' (hT0.kp hw0 kD) (hrE.mono hw5 k6) wsE (by omega) (by omega)) ?_
    rintro v n7 H7 k7 ⟨M', Q', hdM', _, hT'⟩
    have hL' := hT' hriT
    rw [hw0T] at hL'
    obtain ⟨rfl, rfl⟩ := hsameL _ _ _ _ hL hL'
    obtain ⟨hMN, wsM⟩ := least_wa2 ok ws (by omega) (by omega) hL
    have kE := kD.trans k7
    have hw7 := k7.wf hw6'
    have hle7 := k7.le
    have hb7 := (k7.keep n0 (by omega)).trans hb6
    have ho7 := (k7.keep n3 (by omega)).trans ho6
    have hdM7 := hdM.mono hw6' k7
    obtain ⟨c, d, rfl, hM, hQ⟩ := hdM7
    obtain ⟨c', d', rfl, hM', hQ'⟩ := hdM'
    have q1 : ∀ (H' : Heap) ob, hset H' (n7 + 1) ob n7 = H' n7 := fun H' ob => hset_ne _ _ _ (by omega)
    have q2 : ∀ (H' : Heap) ob, hset H' n7 ob (n7 + 1) = H' (n7 + 1) := fun H' ob => hset_ne _ _ _ (by omega)
    simp (config := { maxSteps := 1000000 }) only [SS, forall_const, wx, tguard, acallee, top, tval, fput, tor, vsh, vbin, vun, tload, tload2, tload3, tstore, tstore2, tstore3, Go.AM.splice, one, tidx, tidx2, tidx3, tfa, tfa2, tlen2, tlen3, tpick, tbox, talloc, still, still1, flat1, tbuild, afill, tbs, tbs2, tap, tap2, tap3, tap4, tsrc, tsrc2, Int.reduceEq, Int.reduceNeg, Nat.reduceGT, Nat.reduceLT, Nat.reduceLeDiff, Nat.reduceEqDiff, ↓reduceIte, reduceCtorEq, Int.reduceToNat, Int.reduceLE, Int.reduceLT, Nat.reduceAdd, Nat.reduceMul, abox_cells, abox_one, ac_len, hset_at, q1, q2, ff_4]
    have sp : AM.splice [Value.slice none 0 0, .slice none 0 0] 0 (acells c d M Q) = acells c d M Q := rfl
    have sp' : AM.splice [Value.slice none 0 0, .slice none 0 0] 0 (acells c' d' M Q) = acells c' d' M Q := rfl
    rw [sp, sp']
    have z1 : hset (hset (hset (hset H7 n7 (.cells [.slice none 0 0, .slice none 0 0] 25 true)) (n7 + 1) (.cells [.slice none 0 0, .slice none 0 0] 25 true)) n7 (.cells (acells c d M Q) 25 true)) (n7 + 1) (.cells (acells c' d' M Q) 25 true) n7 = .cells (acells c d M Q) 25 true := (hset_ne _ _ _ (by omega)).trans (hset_at _ _ _)
    have z2 := hset_at (hset (hset (hset H7 n7 (.cells [.slice none 0 0, .slice none 0 0] 25 true)) (n7 + 1) (.cells [.slice none 0 0, .slice none 0 0] 25 true)) n7 (.cells (acells c d M Q) 25 true)) (n7 + 1) (.cells (acells c' d' M Q) 25 true)
    have z3 : Kp n7 H7 (n7 + 1 + 1) (hset (hset (hset (hset H7 n7 (.cells [.slice none 0 0, .slice none 0 0] 25 true)) (n7 + 1) (.cells [.slice none 0 0, .slice none 0 0] 25 true)) n7 (.cells (acells c d M Q) 25 true)) (n7 + 1) (.cells (acells c' d' M Q) 25 true)) :=
      (((Kp.new n7 H7 _).trans (Kp.new (n7 + 1) _ _)).set _ (Nat.le_refl _) (by omega)).set _ (by omega) (by omega)
    generalize hset (hset (hset (hset H7 n7 (.cells [.slice none 0 0, .slice none 0 0] 25 true)) (n7 + 1) (.cells [.slice none 0 0, .slice none 0 0] 25 true)) n7 (.cells (acells c d M Q) 25 true)) (n7 + 1) (.cells (acells c' d' M Q) 25 true) = H8 at *
    have kG := kE.trans z3
    have hw8 := z3.wf hw7
    have hb8 := (z3.keep n0 (by omega)).trans hb7
    have ho8 := (z3.keep n3 (by omega)).trans ho7
    have k58 := (k6.trans k7).trans z3
    repeat (first | apply WK.seq | apply WK.block | apply WK.skipSeq | apply WK.skipBlock | apply WK.retSeq | apply WK.retBlock | apply WK.exitSeq | apply WK.exitHere | refine WK.exitOn rfl ?_ | ((first | (refine WK.rgn ?_ ?_; kernel_rfl) | refine AtCall.now ?_); simp (config := { maxSteps := 1000000 }) only [SS, forall_const, wx, tguard, acallee, top, tval, fput, tor, vsh, vbin, vun, tload, tload2, tload3, tstore, tstore2, tstore3, Go.AM.splice, one, tidx, tidx2, tidx3, tfa, tfa2, tlen2, tlen3, tpick, tbox, talloc, still, still1, flat1, tbuild, afill, tbs, tbs2, tap, tap2, tap3, tap4, tsrc, tsrc2, Int.reduceEq, Int.reduceNeg, Nat.reduceGT, Nat.reduceLT, Nat.reduceLeDiff, Nat.reduceEqDiff, ↓reduceIte, reduceCtorEq, Int.reduceToNat, Int.reduceLE, Int.reduceLT, Nat.reduceAdd, Nat.reduceMul, f3, f8, hb8, ho8, ac_all, ac_len, ff_4]) | (refine WK.condT ?_ ?_; focus (simp only [ev_tmp, ev_const, fset_apply, Nat.reduceEqDiff, ↓reduceIte, decide_true, decide_false, f3, f8, hb8, ho8, ac_all, ac_len, ff_4]; done)) | (refine WK.condF ?_ ?_; focus (simp only [ev_tmp, ev_const, fset_apply, Nat.reduceEqDiff, ↓reduceIte, decide_true, decide_false, f3, f8, hb8, ho8, ac_all, ac_len, ff_4]; done)))
    refine AtCall.by (msame_gives hw8 (hd0.mono hw0 kG) (hrE.mono hw5 k58) ws wsE (by omega) (by omega)) ?_
    rintro v n9 H9 k9 ⟨t, rfl, ht⟩
    rw [← hw, hw0T] at ht
    obtain rfl : t = true := ht.2 ⟨hri, hriT, rfl, hsim⟩
    have kI := kG.trans k9
    have hw9 := k9.wf hw8
    have hle9 := k9.le
    have z19 := (k9.keep n7 (by omega)).trans z1
    have z29 := (k9.keep (n7 + 1) (by omega)).trans z2
    simp (config := { maxSteps := 1000000 }) only [SS, forall_const, wx, tguard, acallee, top, tval, fput, tor, vsh, vbin, vun, tload, tload2, tload3, tstore, tstore2, tstore3, Go.AM.splice, one, tidx, tidx2, tidx3, tfa, tfa2, tlen2, tlen3, tpick, tbox, talloc, still, still1, flat1, tbuild, afill, tbs, tbs2, tap, tap2, tap3, tap4, tsrc, tsrc2, Int.reduceEq, Int.reduceNeg, Nat.reduceGT, Nat.reduceLT, Nat.reduceLeDiff, Nat.reduceEqDiff, ↓reduceIte, reduceCtorEq, Int.reduceToNat, Int.reduceLE, Int.reduceLT, Nat.reduceAdd, Nat.reduceMul, z19, z29, ac_0, ac_1, ff_4]
    refine AtCall.by (alike_gives hw9 (hM.mono hw7 (z3.trans k9)) (hM'.mono hw7 (z3.trans k9)) (by unfold maxL; omega) (fun l hl => (wsM.row l hl).1) (fun l hl => (wsM.row l hl).1)) ?_
    rintro v nA HA kA2 rfl
    have kJ := kI.trans kA2
    have hwA := kA2.wf hw9
    have hleA := kA2.le
    have z1A := (kA2.keep n7 (by omega)).trans z19
    have z2A := (kA2.keep (n7 + 1) (by omega)).trans z29
    simp (config := { maxSteps := 1000000 }) only [SS, forall_const, wx, tguard, acallee, top, tval, fput, tor, vsh, vbin, vun, tload, tload2, tload3, tstore, tstore2, tstore3, Go.AM.splice, one, tidx, tidx2, tidx3, tfa, tfa2, tlen2, tlen3, tpick, tbox, talloc, still, still1, flat1, tbuild, afill, tbs, tbs2, tap, tap2, tap3, tap4, tsrc, tsrc2, Int.reduceEq, Int.reduceNeg, Nat.reduceGT, Nat.reduceLT, Nat.reduceLeDiff, Nat.reduceEqDiff, ↓reduceIte, reduceCtorEq, Int.reduceToNat, Int.reduceLE, Int.reduceLT, Nat.reduceAdd, Nat.reduceMul, z1A, z2A, ac_0, ac_1, decide_true, ff_4]
    refine AtCall.by (same_gives (hQ.mono hw7 ((z3.trans k9).trans kA2)) (hQ'.mono hw7 ((z3.trans k9).trans kA2)) wsM.r wsM.r) ?_
    rintro v nB HB kb ⟨rfl, rfl, rfl⟩
    have hsm : same Q Q = true := same_iff2.2 rfl
    rw [hsm]
    simp (config := { maxSteps := 1000000 }) only [SS, forall_const, wx, tguard, acallee, top, tval, fput, tor, vsh, vbin, vun, tload, tload2, tload3, tstore, tstore2, tstore3, Go.AM.splice, one, tidx, tidx2, tidx3, tfa, tfa2, tlen2, tlen3, tpick, tbox, talloc, still, still1, flat1, tbuild, afill, tbs, tbs2, tap, tap2, tap3, tap4, tsrc, tsrc2, Int.reduceEq, Int.reduceNeg, Nat.reduceGT, Nat.reduceLT, Nat.reduceLeDiff, Nat.reduceEqDiff, ↓reduceIte, reduceCtorEq, Int.reduceToNat, Int.reduceLE, Int.reduceLT, Nat.reduceAdd, Nat.reduceMul, ff_4]
    repeat (first | apply WK.seq | apply WK.block | apply WK.skipSeq | apply WK.skipBlock | apply WK.retSeq | apply WK.retBlock | apply WK.exitSeq | apply WK.exitHere | refine WK.exitOn rfl ?_ | ((first | (refine WK.rgn ?_ ?_; kernel_rfl) | refine AtCall.now ?_); simp (config := { maxSteps := 1000000 }) only [SS, forall_const, wx, tguard, acallee, top, tval, fput, tor, vsh, vbin, vun, tload, tload2, tload3, tstore, tstore2, tstore3, Go.AM.splice, one, tidx, tidx2, tidx3, tfa, tfa2, tlen2, tlen3, tpick, tbox, talloc, still, still1, flat1, tbuild, afill, tbs, tbs2, tap, tap2, tap3, tap4, tsrc, tsrc2, Int.reduceEq, Int.reduceNeg, Nat.reduceGT, Nat.reduceLT, Nat.reduceLeDiff, Nat.reduceEqDiff, ↓reduceIte, reduceCtorEq, Int.reduceToNat, Int.reduceLE, Int.reduceLT, Nat.reduceAdd, Nat.reduceMul, ff_4]) | (refine WK.condT ?_ ?_; focus (simp only [ev_tmp, ev_const, fset_apply, Nat.reduceEqDiff, ↓reduceIte, decide_true, decide_false, ff_4]; done)) | (refine WK.condF ?_ ?_; focus (simp only [ev_tmp, ev_const, fset_apply, Nat.reduceEqDiff, ↓reduceIte, decide_true, decide_false, ff_4]; done)))
    (first | refine WK.retNil ⟨Or.inr rfl, _, rfl, ?_, ?_⟩ | refine WK.skipNil ⟨Or.inl rfl, _, rfl, ?_, ?_⟩)
    · exact kJ.keep
    · simp only [packed, fset_apply, Nat.reduceEqDiff, ↓reduceIte, List.getD_cons_zero, List.getD_cons_succ, ff_4]
end Go.Proofs.YtgnmaekfiifepaaDoor
