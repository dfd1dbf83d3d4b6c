/- A part of a proof. Its conditions: none. -/
import Derived.Test.YtgnmaekfiifepaaDoorAmMMiGlobs
import Derived.Test.YtgnmaekfiifepaaDoorAmMMiLeast
import Derived.Test.YtgnmaekfiifepaaDoorAmMMiSame
import Derived.Test.YtgnmaekfiifepaaDoorAmMMiRef
import Derived.Test.YtgnmaekfiifepaaDoorAmMMiCount
set_option linter.all false
namespace Go.Proofs.YtgnmaekfiifepaaDoor
open Go.AM
set_option maxRecDepth 100000
theorem least_wa {N : List (List Int)} {R : List Int} {w : Nat} {M : List (List Int)} {Q : List Int} (ok : Mini.Ok N R w) (ws : WA N R) (hN : N.length ≤ 1000) (hw : w ≤ 1000) (a : Mini.Least N R w M Q) : M.length ≤ N.length ∧ WA M Q := by
  obtain ⟨okM, _, _⟩ := Mini.Least.facts ok a
  obtain ⟨kf, m, _, hj, hm, rfl, rfl⟩ := a.ex
  have hl := Mini.liter_lt (kf := kf) ok m hj
  have hle : (Mini.liter N kf m).2.length ≤ N.length := by
    have h1 := hl.st.len
    have h2 := hl.len
    omega
  refine ⟨hle, ?_, ?_, fun l hl => ?_, fun y hy => ?_⟩
  · unfold maxL; omega
  · have := okM.len; unfold maxL; omega
  · obtain ⟨i, hi, rfl⟩ := List.getElem_of_mem hl
    have hr := okM.row i hi
    rw [Mini.getD_at [] hi] at hr
    refine ⟨by unfold maxL; omega, fun y hy => ?_⟩
    obtain ⟨t, ht, rfl⟩ := List.getElem_of_mem hy
    have h1 := okM.lo i hi t (by omega)
    have h2 := okM.hi i hi t (by omega)
    rw [Mini.at2_at hi ht] at h1 h2
    unfold inI
    omega
  · obtain ⟨s, hs, rfl⟩ := List.mem_map.1 hy
    have hlt := hl.st.lt s hs
    have := ok.len
    rw [Mini.at1_at (by omega)]
    exact ws.rule _ (List.getElem_mem _)
theorem apart_00 {m n y : Nat} {H : Heap} {O : List (List Bool)} {ys : Nat → Nat} (h : LL n H y 32 4 (fun z => [Value.bool z]) O ys) (h1 : 0 < O.length) (h2 : (O.getD 0 []).length = m) (h3 : 0 < m) :
    ∃ cs1 cs2, H y = .cells cs1 32 true ∧ cs1[0]? = some (.slice (some ⟨ys 0, 0, none⟩) m m) ∧ H (ys 0) = .cells cs2 4 true ∧ cs2[0]? = some (.bool (Mini.mv O 0 0)) := by
  have hg : O.getD 0 [] = O[0] := Mini.getD_at [] h1
  have hO := h.at h1
  rw [hg] at h2
  have hne : O[0] ≠ [] := fun e => by rw [e] at h2; simp at h2; omega
  rw [sl_pos (by omega), h2] at hO
  have hy := h.hy 0 h1 hne
  rw [bools_at] at hy
  refine ⟨_, _, h.hx, hO, hy, ?_⟩
  have hmv : Mini.mv O 0 0 = O[0][0] := by unfold Mini.mv; rw [hg]; exact Mini.getD_at _ (by omega)
  rw [List.getElem?_map, List.getElem?_eq_getElem (by omega), hmv]; rfl
set_option maxHeartbeats 8000000 in
theorem leasts_gives {v v' : Value} {N N' : List (List Int)} {R R' : List Int} {n0 : Nat} {H0 : Heap} (hw0 : WF n0 H0) (hG : ∀ z, G z ≠ .dead → H0 z = G z) (hd : RD H0 v N R) (hd' : RD H0 v' N' R') (ws : WA N R) (ws' : WA N' R') :
    Gives Tryd.prog 3 [v, v'] n0 H0 fun v _ _ => v = .bool true := by
  have hd0 := hd
  have hd0' := hd'
  have hT0 := tens_of hG
  obtain ⟨a, b, rfl, hN0, hR0⟩ := hd
  obtain ⟨a', b', rfl, hN0', hR0'⟩ := hd'
  refine Gives.of orders ok3 (Nat.le_of_ble_eq_true rfl) ?_
  have hk := (Kp.new n0 H0 (.cells (acells a b N R) 25 true)).trans (Kp.new (n0 + 1) (hset H0 n0 (.cells (acells a b N R) 25 true)) (.cells (acells a' b' N' R') 25 true))
  have hb : hset (hset H0 n0 (.cells (acells a b N R) 25 true)) (n0 + 1) (.cells (acells a' b' N' R') 25 true) n0 = .cells (acells a b N R) 25 true := (hset_ne _ _ _ (by omega)).trans (hset_at _ _ _)
  have hb' := hset_at (hset H0 n0 (.cells (acells a b N R) 25 true)) (n0 + 1) (.cells (acells a' b' N' R') 25 true)
  repeat (first | apply WK.seq | apply WK.block | apply WK.skipSeq | apply WK.skipBlock | apply WK.retSeq | apply WK.retBlock | apply WK.exitSeq | apply WK.exitHere | refine WK.exitOn rfl ?_)
  (refine WK.rgn ?_ ?_; kernel_rfl; simp (config := { maxSteps := 1000000 }) only [SS, forall_const, wx, tguard, acallee, top, tval, fput, tor, vsh, vbin, vun, tload, tload2, tload3, tstore, tstore2, tstore3, Go.AM.splice, one, tidx, tidx2, tidx3, tfa, tfa2, tlen2, tlen3, tpick, tbox, talloc, still, still1, flat1, Int.reduceEq, Int.reduceNeg, Nat.reduceGT, Nat.reduceLT, Nat.reduceLeDiff, Nat.reduceEqDiff, ↓reduceIte, reduceCtorEq, Int.reduceToNat, Int.reduceLE, Int.reduceLT, Nat.reduceAdd, Nat.reduceMul, abox, abox_cells, abox_one, ff_3])
  repeat (first | apply WK.seq | apply WK.block | apply WK.skipSeq | apply WK.skipBlock | apply WK.retSeq | apply WK.retBlock | apply WK.exitSeq | apply WK.exitHere | refine WK.exitOn rfl ?_)
  generalize hset (hset H0 n0 (.cells (acells a b N R) 25 true)) (n0 + 1) (.cells (acells a' b' N' R') 25 true) = H1 at *
  have hd1 := hd0.mono hw0 hk
  have hd1' := hd0'.mono hw0 hk
  have hw1 := hk.wf hw0
  have hG1 : ∀ z, G z ≠ .dead → H1 z = G z := fun z hz => by
    have h := hG z hz
    rw [hk.keep z (live_lt0 hw0 (by rw [h]; exact hz)), h]
  repeat (first | apply WK.seq | apply WK.block | apply WK.skipSeq | apply WK.skipBlock | apply WK.retSeq | apply WK.retBlock | apply WK.exitSeq | apply WK.exitHere | refine WK.exitOn rfl ?_ | ((first | (refine WK.rgn ?_ ?_; kernel_rfl) | refine AtCall.now ?_); simp (config := { maxSteps := 1000000 }) only [SS, forall_const, wx, tguard, acallee, top, tval, fput, tor, vsh, vbin, vun, tload, tload2, tload3, tstore, tstore2, tstore3, Go.AM.splice, one, tidx, tidx2, tidx3, tfa, tfa2, tlen2, tlen3, tpick, tbox, talloc, still, still1, flat1, Int.reduceEq, Int.reduceNeg, Nat.reduceGT, Nat.reduceLT, Nat.reduceLeDiff, Nat.reduceEqDiff, ↓reduceIte, reduceCtorEq, Int.reduceToNat, Int.reduceLE, Int.reduceLT, Nat.reduceAdd, Nat.reduceMul, ff_3]) | (refine WK.condT ?_ ?_; focus (simp only [ev_tmp, ev_const, fset_apply, Nat.reduceEqDiff, ↓reduceIte, decide_true, decide_false, ff_3]; done)) | (refine WK.condF ?_ ?_; focus (simp only [ev_tmp, ev_const, fset_apply, Nat.reduceEqDiff, ↓reduceIte, decide_true, decide_false, ff_3]; done)))
  refine AtCall.by (alive_gives _ _ hG1) ?_
  rintro v n' H' k' ⟨rfl, rfl, rfl⟩
  simp (config := { maxSteps := 1000000 }) only [SS, forall_const, wx, tguard, acallee, top, tval, fput, tor, vsh, vbin, vun, tload, tload2, tload3, tstore, tstore2, tstore3, Go.AM.splice, one, tidx, tidx2, tidx3, tfa, tfa2, tlen2, tlen3, tpick, tbox, talloc, still, still1, flat1, Int.reduceEq, Int.reduceNeg, Nat.reduceGT, Nat.reduceLT, Nat.reduceLeDiff, Nat.reduceEqDiff, ↓reduceIte, reduceCtorEq, Int.reduceToNat, Int.reduceLE, Int.reduceLT, Nat.reduceAdd, Nat.reduceMul, Bool.not_true, ff_3]
  repeat (first | apply WK.seq | apply WK.block | apply WK.skipSeq | apply WK.skipBlock | apply WK.retSeq | apply WK.retBlock | apply WK.exitSeq | apply WK.exitHere | refine WK.exitOn rfl ?_ | ((first | (refine WK.rgn ?_ ?_; kernel_rfl) | refine AtCall.now ?_); simp (config := { maxSteps := 1000000 }) only [SS, forall_const, wx, tguard, acallee, top, tval, fput, tor, vsh, vbin, vun, tload, tload2, tload3, tstore, tstore2, tstore3, Go.AM.splice, one, tidx, tidx2, tidx3, tfa, tfa2, tlen2, tlen3, tpick, tbox, talloc, still, still1, flat1, Int.reduceEq, Int.reduceNeg, Nat.reduceGT, Nat.reduceLT, Nat.reduceLeDiff, Nat.reduceEqDiff, ↓reduceIte, reduceCtorEq, Int.reduceToNat, Int.reduceLE, Int.reduceLT, Nat.reduceAdd, Nat.reduceMul, hb, ac_all, ac_len, ff_3]) | (refine WK.condT ?_ ?_; focus (simp only [ev_tmp, ev_const, fset_apply, Nat.reduceEqDiff, ↓reduceIte, decide_true, decide_false, hb, ac_all, ac_len, ff_3]; done)) | (refine WK.condF ?_ ?_; focus (simp only [ev_tmp, ev_const, fset_apply, Nat.reduceEqDiff, ↓reduceIte, decide_true, decide_false, hb, ac_all, ac_len, ff_3]; done)))
  refine AtCall.by (small2_gives hw1 hd1 ws) ?_
  rintro v n2 H2 k2 rfl
  have kA := hk.trans k2
  have hw2 := k2.wf hw1
  have hle2 := k2.le
  have hb2 := (k2.keep n0 (by omega)).trans hb
  have hb2' := (k2.keep (n0 + 1) (by omega)).trans hb'
  cases hsv : smallB N R with
  | false =>
    simp (config := { maxSteps := 1000000 }) only [SS, forall_const, wx, tguard, acallee, top, tval, fput, tor, vsh, vbin, vun, tload, tload2, tload3, tstore, tstore2, tstore3, Go.AM.splice, one, tidx, tidx2, tidx3, tfa, tfa2, tlen2, tlen3, tpick, tbox, talloc, still, still1, flat1, Int.reduceEq, Int.reduceNeg, Nat.reduceGT, Nat.reduceLT, Nat.reduceLeDiff, Nat.reduceEqDiff, ↓reduceIte, reduceCtorEq, Int.reduceToNat, Int.reduceLE, Int.reduceLT, Nat.reduceAdd, Nat.reduceMul, Bool.not_false, ff_3]
    repeat (first | apply WK.seq | apply WK.block | apply WK.skipSeq | apply WK.skipBlock | apply WK.retSeq | apply WK.retBlock | apply WK.exitSeq | apply WK.exitHere | refine WK.exitOn rfl ?_ | ((first | (refine WK.rgn ?_ ?_; kernel_rfl) | refine AtCall.now ?_); simp (config := { maxSteps := 1000000 }) only [SS, forall_const, wx, tguard, acallee, top, tval, fput, tor, vsh, vbin, vun, tload, tload2, tload3, tstore, tstore2, tstore3, Go.AM.splice, one, tidx, tidx2, tidx3, tfa, tfa2, tlen2, tlen3, tpick, tbox, talloc, still, still1, flat1, Int.reduceEq, Int.reduceNeg, Nat.reduceGT, Nat.reduceLT, Nat.reduceLeDiff, Nat.reduceEqDiff, ↓reduceIte, reduceCtorEq, Int.reduceToNat, Int.reduceLE, Int.reduceLT, Nat.reduceAdd, Nat.reduceMul, ff_3]) | (refine WK.condT ?_ ?_; focus (simp only [ev_tmp, ev_const, fset_apply, Nat.reduceEqDiff, ↓reduceIte, decide_true, decide_false, ff_3]; done)) | (refine WK.condF ?_ ?_; focus (simp only [ev_tmp, ev_const, fset_apply, Nat.reduceEqDiff, ↓reduceIte, decide_true, decide_false, ff_3]; done)))
    (first | refine WK.retNil ⟨Or.inr rfl, _, rfl, ?_, ?_⟩ | refine WK.skipNil ⟨Or.inl rfl, _, rfl, ?_, ?_⟩)
    · exact kA.keep
    · simp only [packed, fset_apply, Nat.reduceEqDiff, ↓reduceIte, List.getD_cons_zero, List.getD_cons_succ, ff_3]
  | true =>
  simp (config := { maxSteps := 1000000 }) only [SS, forall_const, wx, tguard, acallee, top, tval, fput, tor, vsh, vbin, vun, tload, tload2, tload3, tstore, tstore2, tstore3, Go.AM.splice, one, tidx, tidx2, tidx3, tfa, tfa2, tlen2, tlen3, tpick, tbox, talloc, still, still1, flat1, Int.reduceEq, Int.reduceNeg, Nat.reduceGT, Nat.reduceLT, Nat.reduceLeDiff, Nat.reduceEqDiff, ↓reduceIte, reduceCtorEq, Int.reduceToNat, Int.reduceLE, Int.reduceLT, Nat.reduceAdd, Nat.reduceMul, Bool.not_true, hb2', ac_all, ac_len, ff_3]
  refine AtCall.by (small2_gives hw2 (hd0'.mono hw0 kA) ws') ?_
  rintro v n3 H3 k3 rfl
  have kB := kA.trans k3
  have hw3 := k3.wf hw2
  have hle3 := k3.le
  have hb3 := (k3.keep n0 (by omega)).trans hb2
  have hb3' := (k3.keep (n0 + 1) (by omega)).trans hb2'
  cases hsv' : smallB N' R' with
  | false =>
    simp (config := { maxSteps := 1000000 }) only [SS, forall_const, wx, tguard, acallee, top, tval, fput, tor, vsh, vbin, vun, tload, tload2, tload3, tstore, tstore2, tstore3, Go.AM.splice, one, tidx, tidx2, tidx3, tfa, tfa2, tlen2, tlen3, tpick, tbox, talloc, still, still1, flat1, Int.reduceEq, Int.reduceNeg, Nat.reduceGT, Nat.reduceLT, Nat.reduceLeDiff, Nat.reduceEqDiff, ↓reduceIte, reduceCtorEq, Int.reduceToNat, Int.reduceLE, Int.reduceLT, Nat.reduceAdd, Nat.reduceMul, Bool.not_false, ff_3]
    repeat (first | apply WK.seq | apply WK.block | apply WK.skipSeq | apply WK.skipBlock | apply WK.retSeq | apply WK.retBlock | apply WK.exitSeq | apply WK.exitHere | refine WK.exitOn rfl ?_ | ((first | (refine WK.rgn ?_ ?_; kernel_rfl) | refine AtCall.now ?_); simp (config := { maxSteps := 1000000 }) only [SS, forall_const, wx, tguard, acallee, top, tval, fput, tor, vsh, vbin, vun, tload, tload2, tload3, tstore, tstore2, tstore3, Go.AM.splice, one, tidx, tidx2, tidx3, tfa, tfa2, tlen2, tlen3, tpick, tbox, talloc, still, still1, flat1, Int.reduceEq, Int.reduceNeg, Nat.reduceGT, Nat.reduceLT, Nat.reduceLeDiff, Nat.reduceEqDiff, ↓reduceIte, reduceCtorEq, Int.reduceToNat, Int.reduceLE, Int.reduceLT, Nat.reduceAdd, Nat.reduceMul, ff_3]) | (refine WK.condT ?_ ?_; focus (simp only [ev_tmp, ev_const, fset_apply, Nat.reduceEqDiff, ↓reduceIte, decide_true, decide_false, ff_3]; done)) | (refine WK.condF ?_ ?_; focus (simp only [ev_tmp, ev_const, fset_apply, Nat.reduceEqDiff, ↓reduceIte, decide_true, decide_false, ff_3]; done)))
    (first | refine WK.retNil ⟨Or.inr rfl, _, rfl, ?_, ?_⟩ | refine WK.skipNil ⟨Or.inl rfl, _, rfl, ?_, ?_⟩)
    · exact kB.keep
    · simp only [packed, fset_apply, Nat.reduceEqDiff, ↓reduceIte, List.getD_cons_zero, List.getD_cons_succ, ff_3]
  | true =>
  simp (config := { maxSteps := 1000000 }) only [SS, forall_const, wx, tguard, acallee, top, tval, fput, tor, vsh, vbin, vun, tload, tload2, tload3, tstore, tstore2, tstore3, Go.AM.splice, one, tidx, tidx2, tidx3, tfa, tfa2, tlen2, tlen3, tpick, tbox, talloc, still, still1, flat1, Int.reduceEq, Int.reduceNeg, Nat.reduceGT, Nat.reduceLT, Nat.reduceLeDiff, Nat.reduceEqDiff, ↓reduceIte, reduceCtorEq, Int.reduceToNat, Int.reduceLE, Int.reduceLT, Nat.reduceAdd, Nat.reduceMul, Bool.not_true, ff_3]
  obtain ⟨hN12, hR12, hw6a⟩ := small_facts hsv
  obtain ⟨hN12', hR12', hw6a'⟩ := small_facts hsv'
  repeat (first | apply WK.seq | apply WK.block | apply WK.skipSeq | apply WK.skipBlock | apply WK.retSeq | apply WK.retBlock | apply WK.exitSeq | apply WK.exitHere | refine WK.exitOn rfl ?_ | ((first | (refine WK.rgn ?_ ?_; kernel_rfl) | refine AtCall.now ?_); simp (config := { maxSteps := 1000000 }) only [SS, forall_const, wx, tguard, acallee, top, tval, fput, tor, vsh, vbin, vun, tload, tload2, tload3, tstore, tstore2, tstore3, Go.AM.splice, one, tidx, tidx2, tidx3, tfa, tfa2, tlen2, tlen3, tpick, tbox, talloc, still, still1, flat1, Int.reduceEq, Int.reduceNeg, Nat.reduceGT, Nat.reduceLT, Nat.reduceLeDiff, Nat.reduceEqDiff, ↓reduceIte, reduceCtorEq, Int.reduceToNat, Int.reduceLE, Int.reduceLT, Nat.reduceAdd, Nat.reduceMul, hb3, ac_0, ac_1, ff_3]) | (refine WK.condT ?_ ?_; focus (simp only [ev_tmp, ev_const, fset_apply, Nat.reduceEqDiff, ↓reduceIte, decide_true, decide_false, hb3, ac_0, ac_1, ff_3]; done)) | (refine WK.condF ?_ ?_; focus (simp only [ev_tmp, ev_const, fset_apply, Nat.reduceEqDiff, ↓reduceIte, decide_true, decide_false, hb3, ac_0, ac_1, ff_3]; done)))
  refine AtCall.by (rright_gives (hN0.mono hw0 kB) (hR0.mono hw0 kB) ws) ?_
  rintro v n4 H4 k4 rfl
  have kC := kB.trans k4
  have hw4 := k4.wf hw3
  have hle4 := k4.le
  have hb4 := (k4.keep n0 (by omega)).trans hb3
  have hb4' := (k4.keep (n0 + 1) (by omega)).trans hb3'
  simp (config := { maxSteps := 1000000 }) only [SS, forall_const, wx, tguard, acallee, top, tval, fput, tor, vsh, vbin, vun, tload, tload2, tload3, tstore, tstore2, tstore3, Go.AM.splice, one, tidx, tidx2, tidx3, tfa, tfa2, tlen2, tlen3, tpick, tbox, talloc, still, still1, flat1, Int.reduceEq, Int.reduceNeg, Nat.reduceGT, Nat.reduceLT, Nat.reduceLeDiff, Nat.reduceEqDiff, ↓reduceIte, reduceCtorEq, Int.reduceToNat, Int.reduceLE, Int.reduceLT, Nat.reduceAdd, Nat.reduceMul, ff_3]
  repeat (first | apply WK.seq | apply WK.block | apply WK.skipSeq | apply WK.skipBlock | apply WK.retSeq | apply WK.retBlock | apply WK.exitSeq | apply WK.exitHere | refine WK.exitOn rfl ?_ | ((first | (refine WK.rgn ?_ ?_; kernel_rfl) | refine AtCall.now ?_); simp (config := { maxSteps := 1000000 }) only [SS, forall_const, wx, tguard, acallee, top, tval, fput, tor, vsh, vbin, vun, tload, tload2, tload3, tstore, tstore2, tstore3, Go.AM.splice, one, tidx, tidx2, tidx3, tfa, tfa2, tlen2, tlen3, tpick, tbox, talloc, still, still1, flat1, Int.reduceEq, Int.reduceNeg, Nat.reduceGT, Nat.reduceLT, Nat.reduceLeDiff, Nat.reduceEqDiff, ↓reduceIte, reduceCtorEq, Int.reduceToNat, Int.reduceLE, Int.reduceLT, Nat.reduceAdd, Nat.reduceMul, hb4, ac_all, ac_len, ff_3]) | (refine WK.condT ?_ ?_; focus (simp only [ev_tmp, ev_const, fset_apply, Nat.reduceEqDiff, ↓reduceIte, decide_true, decide_false, hb4, ac_all, ac_len, ff_3]; done)) | (refine WK.condF ?_ ?_; focus (simp only [ev_tmp, ev_const, fset_apply, Nat.reduceEqDiff, ↓reduceIte, decide_true, decide_false, hb4, ac_all, ac_len, ff_3]; done)))
  refine AtCall.by (right_gives hw4 (hd0.mono hw0 kC) ws) ?_
  rintro v n5 H5 k5 rfl
  have kD := kC.trans k5
  have hw5 := k5.wf hw4
  have hle5 := k5.le
  have hb5 := (k5.keep n0 (by omega)).trans hb4
  have hb5' := (k5.keep (n0 + 1) (by omega)).trans hb4'
  obtain ⟨rb, hrb⟩ : ∃ rb, Mini.rightB N R = rb := ⟨_, rfl⟩
  obtain ⟨rb', hrb'⟩ : ∃ rb, Mini.rightB N' R' = rb := ⟨_, rfl⟩
  rw [hrb]
  simp (config := { maxSteps := 1000000 }) only [SS, forall_const, wx, tguard, acallee, top, tval, fput, tor, vsh, vbin, vun, tload, tload2, tload3, tstore, tstore2, tstore3, Go.AM.splice, one, tidx, tidx2, tidx3, tfa, tfa2, tlen2, tlen3, tpick, tbox, talloc, still, still1, flat1, Int.reduceEq, Int.reduceNeg, Nat.reduceGT, Nat.reduceLT, Nat.reduceLeDiff, Nat.reduceEqDiff, ↓reduceIte, reduceCtorEq, Int.reduceToNat, Int.reduceLE, Int.reduceLT, Nat.reduceAdd, Nat.reduceMul, hb5', ac_all, ac_len, beq_self_eq_true, Bool.not_true, ff_3]
  refine AtCall.by (right_gives hw5 (hd0'.mono hw0 kD) ws') ?_
  rintro v n6 H6 k6 rfl
  have kE := kD.trans k6
  have hw6 := k6.wf hw5
  have hle6 := k6.le
  have hb6 := (k6.keep n0 (by omega)).trans hb5
  have hb6' := (k6.keep (n0 + 1) (by omega)).trans hb5'
  rw [hrb']
  simp (config := { maxSteps := 1000000 }) only [SS, forall_const, wx, tguard, acallee, top, tval, fput, tor, vsh, vbin, vun, tload, tload2, tload3, tstore, tstore2, tstore3, Go.AM.splice, one, tidx, tidx2, tidx3, tfa, tfa2, tlen2, tlen3, tpick, tbox, talloc, still, still1, flat1, Int.reduceEq, Int.reduceNeg, Nat.reduceGT, Nat.reduceLT, Nat.reduceLeDiff, Nat.reduceEqDiff, ↓reduceIte, reduceCtorEq, Int.reduceToNat, Int.reduceLE, Int.reduceLT, Nat.reduceAdd, Nat.reduceMul, hb6', ac_0, ac_1, ff_3]
  refine AtCall.by (rright_gives (hN0'.mono hw0 kE) (hR0'.mono hw0 kE) ws') ?_
  rintro v n7 H7 k7 rfl
  have kF := kE.trans k7
  have hw7 := k7.wf hw6
  have hle7 := k7.le
  have hb7 := (k7.keep n0 (by omega)).trans hb6
  have hb7' := (k7.keep (n0 + 1) (by omega)).trans hb6'
  rw [hrb']
  simp (config := { maxSteps := 1000000 }) only [SS, forall_const, wx, tguard, acallee, top, tval, fput, tor, vsh, vbin, vun, tload, tload2, tload3, tstore, tstore2, tstore3, Go.AM.splice, one, tidx, tidx2, tidx3, tfa, tfa2, tlen2, tlen3, tpick, tbox, talloc, still, still1, flat1, Int.reduceEq, Int.reduceNeg, Nat.reduceGT, Nat.reduceLT, Nat.reduceLeDiff, Nat.reduceEqDiff, ↓reduceIte, reduceCtorEq, Int.reduceToNat, Int.reduceLE, Int.reduceLT, Nat.reduceAdd, Nat.reduceMul, beq_self_eq_true, Bool.not_true, ff_3]
  repeat (first | apply WK.seq | apply WK.block | apply WK.skipSeq | apply WK.skipBlock | apply WK.retSeq | apply WK.retBlock | apply WK.exitSeq | apply WK.exitHere | refine WK.exitOn rfl ?_ | ((first | (refine WK.rgn ?_ ?_; kernel_rfl) | refine AtCall.now ?_); simp (config := { maxSteps := 1000000 }) only [SS, forall_const, wx, tguard, acallee, top, tval, fput, tor, vsh, vbin, vun, tload, tload2, tload3, tstore, tstore2, tstore3, Go.AM.splice, one, tidx, tidx2, tidx3, tfa, tfa2, tlen2, tlen3, tpick, tbox, talloc, still, still1, flat1, Int.reduceEq, Int.reduceNeg, Nat.reduceGT, Nat.reduceLT, Nat.reduceLeDiff, Nat.reduceEqDiff, ↓reduceIte, reduceCtorEq, Int.reduceToNat, Int.reduceLE, Int.reduceLT, Nat.reduceAdd, Nat.reduceMul, hb7, ac_all, ac_len, ff_3]) | (refine WK.condT ?_ ?_; focus (simp only [ev_tmp, ev_const, fset_apply, Nat.reduceEqDiff, ↓reduceIte, decide_true, decide_false, hb7, ac_all, ac_len, ff_3]; done)) | (refine WK.condF ?_ ?_; focus (simp only [ev_tmp, ev_const, fset_apply, Nat.reduceEqDiff, ↓reduceIte, decide_true, decide_false, hb7, ac_all, ac_len, ff_3]; done)))
  refine AtCall.by (least_gives hw7 (hT0.kp hw0 kF) (hd0.mono hw0 kF) ws (by omega) (by have := wid hw6a; omega)) ?_
  rintro v n8 H8 k8 ⟨M, Q, hdM, hF, hT⟩
  have kG := kF.trans k8
  have hw8 := k8.wf hw7
  have hle8 := k8.le
  have hb8 := (k8.keep n0 (by omega)).trans hb7
  have hb8' := (k8.keep (n0 + 1) (by omega)).trans hb7'
  have hdM0 := hdM
  obtain ⟨c, d, rfl, hM, hQ⟩ := hdM
  simp (config := { maxSteps := 1000000 }) only [SS, forall_const, wx, tguard, acallee, top, tval, fput, tor, vsh, vbin, vun, tload, tload2, tload3, tstore, tstore2, tstore3, Go.AM.splice, one, tidx, tidx2, tidx3, tfa, tfa2, tlen2, tlen3, tpick, tbox, talloc, still, still1, flat1, Int.reduceEq, Int.reduceNeg, Nat.reduceGT, Nat.reduceLT, Nat.reduceLeDiff, Nat.reduceEqDiff, ↓reduceIte, reduceCtorEq, Int.reduceToNat, Int.reduceLE, Int.reduceLT, Nat.reduceAdd, Nat.reduceMul, abox_cells, abox_one, ac_len, ff_3]
  repeat (first | apply WK.seq | apply WK.block | apply WK.skipSeq | apply WK.skipBlock | apply WK.retSeq | apply WK.retBlock | apply WK.exitSeq | apply WK.exitHere | refine WK.exitOn rfl ?_ | ((first | (refine WK.rgn ?_ ?_; kernel_rfl) | refine AtCall.now ?_); simp (config := { maxSteps := 1000000 }) only [SS, forall_const, wx, tguard, acallee, top, tval, fput, tor, vsh, vbin, vun, tload, tload2, tload3, tstore, tstore2, tstore3, Go.AM.splice, one, tidx, tidx2, tidx3, tfa, tfa2, tlen2, tlen3, tpick, tbox, talloc, still, still1, flat1, Int.reduceEq, Int.reduceNeg, Nat.reduceGT, Nat.reduceLT, Nat.reduceLeDiff, Nat.reduceEqDiff, ↓reduceIte, reduceCtorEq, Int.reduceToNat, Int.reduceLE, Int.reduceLT, Nat.reduceAdd, Nat.reduceMul, abox_cells, abox_one, ac_len, ff_3]) | (refine WK.condT ?_ ?_; focus (simp only [ev_tmp, ev_const, fset_apply, Nat.reduceEqDiff, ↓reduceIte, decide_true, decide_false, abox_cells, abox_one, ac_len, ff_3]; done)) | (refine WK.condF ?_ ?_; focus (simp only [ev_tmp, ev_const, fset_apply, Nat.reduceEqDiff, ↓reduceIte, decide_true, decide_false, abox_cells, abox_one, ac_len, ff_3]; done)))
  have sp : AM.splice [Value.slice none 0 0, .slice none 0 0] 0 (acells c d M Q) = acells c d M Q := rfl
  rw [sp]
  have kH := kG.trans (Kp.new n8 H8 (.cells (acells c d M Q) 25 true))
  have hw9 := kH.wf hw0
  have hdM9 := hdM0.mono hw8 (Kp.new n8 H8 (.cells (acells c d M Q) 25 true))
  have hM9 := hM.mono hw8 (Kp.new n8 H8 (.cells (acells c d M Q) 25 true))
  have hQ9 := hQ.mono hw8 (Kp.new n8 H8 (.cells (acells c d M Q) 25 true))
  have hb9 : hset H8 n8 (.cells (acells c d M Q) 25 true) n0 = .cells (acells a b N R) 25 true := (hset_ne _ _ _ (by omega)).trans hb8
  have hb9' : hset H8 n8 (.cells (acells c d M Q) 25 true) (n0 + 1) = .cells (acells a' b' N' R') 25 true := (hset_ne _ _ _ (by omega)).trans hb8'
  have hm9 := hset_at H8 n8 (.cells (acells c d M Q) 25 true)
  generalize hset H8 n8 (.cells (acells c d M Q) 25 true) = H9 at *
  cases rb with
  | false =>
    obtain ⟨hM0, hQ0⟩ := hF hrb
    have hMl : ((M.length : Int) = 0) = True := by simp [hM0]
    have hQl : ((Q.length : Int) = 0) = True := by simp [hQ0]
    repeat (first | apply WK.seq | apply WK.block | apply WK.skipSeq | apply WK.skipBlock | apply WK.retSeq | apply WK.retBlock | apply WK.exitSeq | apply WK.exitHere | refine WK.exitOn rfl ?_ | ((first | (refine WK.rgn ?_ ?_; kernel_rfl) | refine AtCall.now ?_); simp (config := { maxSteps := 1000000 }) only [SS, forall_const, wx, tguard, acallee, top, tval, fput, tor, vsh, vbin, vun, tload, tload2, tload3, tstore, tstore2, tstore3, Go.AM.splice, one, tidx, tidx2, tidx3, tfa, tfa2, tlen2, tlen3, tpick, tbox, talloc, still, still1, flat1, Int.reduceEq, Int.reduceNeg, Nat.reduceGT, Nat.reduceLT, Nat.reduceLeDiff, Nat.reduceEqDiff, ↓reduceIte, reduceCtorEq, Int.reduceToNat, Int.reduceLE, Int.reduceLT, Nat.reduceAdd, Nat.reduceMul, hm9, ac_0, ac_1, hMl, hQl, hb9, hb9', ac_all, ac_len, Bool.not_false, ff_3]) | (refine WK.condT ?_ ?_; focus (simp only [ev_tmp, ev_const, fset_apply, Nat.reduceEqDiff, ↓reduceIte, decide_true, decide_false, hm9, ac_0, ac_1, hMl, hQl, hb9, hb9', ac_all, ac_len, Bool.not_false, ff_3]; done)) | (refine WK.condF ?_ ?_; focus (simp only [ev_tmp, ev_const, fset_apply, Nat.reduceEqDiff, ↓reduceIte, decide_true, decide_false, hm9, ac_0, ac_1, hMl, hQl, hb9, hb9', ac_all, ac_len, Bool.not_false, ff_3]; done)))
    refine AtCall.by (msame_gives hw9 (hd0.mono hw0 kH) (hd0'.mono hw0 kH) ws ws' (by omega) (by omega)) ?_
    rintro v nA HA kI ⟨t, rfl, ht⟩
    have ht : t = false := by rw [Bool.eq_false_iff]; intro h; have := (ht.1 h).1; rw [hrb] at this; cases this
    subst ht
    simp (config := { maxSteps := 1000000 }) only [SS, forall_const, wx, tguard, acallee, top, tval, fput, tor, vsh, vbin, vun, tload, tload2, tload3, tstore, tstore2, tstore3, Go.AM.splice, one, tidx, tidx2, tidx3, tfa, tfa2, tlen2, tlen3, tpick, tbox, talloc, still, still1, flat1, Int.reduceEq, Int.reduceNeg, Nat.reduceGT, Nat.reduceLT, Nat.reduceLeDiff, Nat.reduceEqDiff, ↓reduceIte, reduceCtorEq, Int.reduceToNat, Int.reduceLE, Int.reduceLT, Nat.reduceAdd, Nat.reduceMul, Bool.not_false, ff_3]
    repeat (first | apply WK.seq | apply WK.block | apply WK.skipSeq | apply WK.skipBlock | apply WK.retSeq | apply WK.retBlock | apply WK.exitSeq | apply WK.exitHere | refine WK.exitOn rfl ?_ | ((first | (refine WK.rgn ?_ ?_; kernel_rfl) | refine AtCall.now ?_); simp (config := { maxSteps := 1000000 }) only [SS, forall_const, wx, tguard, acallee, top, tval, fput, tor, vsh, vbin, vun, tload, tload2, tload3, tstore, tstore2, tstore3, Go.AM.splice, one, tidx, tidx2, tidx3, tfa, tfa2, tlen2, tlen3, tpick, tbox, talloc, still, still1, flat1, Int.reduceEq, Int.reduceNeg, Nat.reduceGT, Nat.reduceLT, Nat.reduceLeDiff, Nat.reduceEqDiff, ↓reduceIte, reduceCtorEq, Int.reduceToNat, Int.reduceLE, Int.reduceLT, Nat.reduceAdd, Nat.reduceMul, ff_3]) | (refine WK.condT ?_ ?_; focus (simp only [ev_tmp, ev_const, fset_apply, Nat.reduceEqDiff, ↓reduceIte, decide_true, decide_false, ff_3]; done)) | (refine WK.condF ?_ ?_; focus (simp only [ev_tmp, ev_const, fset_apply, Nat.reduceEqDiff, ↓reduceIte, decide_true, decide_false, ff_3]; done)))
    (first | refine WK.retNil ⟨Or.inr rfl, _, rfl, ?_, ?_⟩ | refine WK.skipNil ⟨Or.inl rfl, _, rfl, ?_, ?_⟩)
    · exact (kH.trans kI).keep
    · simp only [packed, fset_apply, Nat.reduceEqDiff, ↓reduceIte, List.getD_cons_zero, List.getD_cons_succ, ff_3]
  | true =>
  have ok := (Mini.rightB_iff N R).1 hrb
  have hL := hT hrb
  obtain ⟨okM, hsim, _⟩ := Mini.Least.facts ok hL
  have hw6N := wid hw6a
  obtain ⟨hMN, wsM⟩ := least_wa ok ws (by omega) (by omega) hL
  have hrM : Mini.rightB M Q = true := (Mini.rightB_iff M Q).2 (by rw [okM.row 0 okM.pos]; exact okM)
  repeat (first | apply WK.seq | apply WK.block | apply WK.skipSeq | apply WK.skipBlock | apply WK.retSeq | apply WK.retBlock | apply WK.exitSeq | apply WK.exitHere | refine WK.exitOn rfl ?_ | ((first | (refine WK.rgn ?_ ?_; kernel_rfl) | refine AtCall.now ?_); simp (config := { maxSteps := 1000000 }) only [SS, forall_const, wx, tguard, acallee, top, tval, fput, tor, vsh, vbin, vun, tload, tload2, tload3, tstore, tstore2, tstore3, Go.AM.splice, one, tidx, tidx2, tidx3, tfa, tfa2, tlen2, tlen3, tpick, tbox, talloc, still, still1, flat1, Int.reduceEq, Int.reduceNeg, Nat.reduceGT, Nat.reduceLT, Nat.reduceLeDiff, Nat.reduceEqDiff, ↓reduceIte, reduceCtorEq, Int.reduceToNat, Int.reduceLE, Int.reduceLT, Nat.reduceAdd, Nat.reduceMul, hm9, ac_all, ac_len, Bool.not_true, ff_3]) | (refine WK.condT ?_ ?_; focus (simp only [ev_tmp, ev_const, fset_apply, Nat.reduceEqDiff, ↓reduceIte, decide_true, decide_false, hm9, ac_all, ac_len, Bool.not_true, ff_3]; done)) | (refine WK.condF ?_ ?_; focus (simp only [ev_tmp, ev_const, fset_apply, Nat.reduceEqDiff, ↓reduceIte, decide_true, decide_false, hm9, ac_all, ac_len, Bool.not_true, ff_3]; done)))
  refine AtCall.by (right_gives hw9 hdM9 wsM) ?_
  rintro v nA HA kI rfl
  have kJ := kH.trans kI
  have hwA := kI.wf hw9
  have hleA := kI.le
  have hbA := (kI.keep n0 (by omega)).trans hb9
  have hbA' := (kI.keep (n0 + 1) (by omega)).trans hb9'
  have hmA := (kI.keep n8 (by omega)).trans hm9
  have hdMA := hdM9.mono hw9 kI
  simp (config := { maxSteps := 1000000 }) only [SS, forall_const, wx, tguard, acallee, top, tval, fput, tor, vsh, vbin, vun, tload, tload2, tload3, tstore, tstore2, tstore3, Go.AM.splice, one, tidx, tidx2, tidx3, tfa, tfa2, tlen2, tlen3, tpick, tbox, talloc, still, still1, flat1, Int.reduceEq, Int.reduceNeg, Nat.reduceGT, Nat.reduceLT, Nat.reduceLeDiff, Nat.reduceEqDiff, ↓reduceIte, reduceCtorEq, Int.reduceToNat, Int.reduceLE, Int.reduceLT, Nat.reduceAdd, Nat.reduceMul, hrM, Bool.not_true, hbA, hmA, ac_all, ac_len, ff_3]
  refine AtCall.by (msame_gives hwA (hd0.mono hw0 kJ) hdMA ws wsM (by omega) (by omega)) ?_
  rintro v nB HB kb ⟨t, rfl, ht⟩
  obtain rfl : t = true := ht.2 ⟨hrb, hrM, (okM.row 0 okM.pos).symm, hsim⟩
  have kK := kJ.trans kb
  have hwB := kb.wf hwA
  have hleB := kb.le
  have hbB := (kb.keep n0 (by omega)).trans hbA
  have hbB' := (kb.keep (n0 + 1) (by omega)).trans hbA'
  have hmB := (kb.keep n8 (by omega)).trans hmA
  have hdMB := hdMA.mono hwA kb
  simp (config := { maxSteps := 1000000 }) only [SS, forall_const, wx, tguard, acallee, top, tval, fput, tor, vsh, vbin, vun, tload, tload2, tload3, tstore, tstore2, tstore3, Go.AM.splice, one, tidx, tidx2, tidx3, tfa, tfa2, tlen2, tlen3, tpick, tbox, talloc, still, still1, flat1, Int.reduceEq, Int.reduceNeg, Nat.reduceGT, Nat.reduceLT, Nat.reduceLeDiff, Nat.reduceEqDiff, ↓reduceIte, reduceCtorEq, Int.reduceToNat, Int.reduceLE, Int.reduceLT, Nat.reduceAdd, Nat.reduceMul, Bool.not_true, hbB, hmB, ac_0, ac_1, ff_3]
  refine AtCall.by (count_gives hwB (hN0.mono hw0 kK) (hR0.mono hw0 kK) ok (by omega) (by omega)) ?_
  rintro v nC HC kc ⟨L, V, rfl, hLc, hV⟩
  have hcnt : M.length = (Mini.frs L V N.length).length := by
    obtain ⟨kf, m, hk, _⟩ := hL.ex
    exact Mini.frs_count ok hL hk hLc (fun s hs => come_lt ok hs) hV
  rw [← hcnt]
  have kM := kK.trans kc
  have hwC := kc.wf hwB
  have hleC := kc.le
  have hbC := (kc.keep n0 (by omega)).trans hbB
  have hbC' := (kc.keep (n0 + 1) (by omega)).trans hbB'
  have hmC := (kc.keep n8 (by omega)).trans hmB
  have kC9 := (kI.trans kb).trans kc
  simp (config := { maxSteps := 1000000 }) only [SS, forall_const, wx, tguard, acallee, top, tval, fput, tor, vsh, vbin, vun, tload, tload2, tload3, tstore, tstore2, tstore3, Go.AM.splice, one, tidx, tidx2, tidx3, tfa, tfa2, tlen2, tlen3, tpick, tbox, talloc, still, still1, flat1, Int.reduceEq, Int.reduceNeg, Nat.reduceGT, Nat.reduceLT, Nat.reduceLeDiff, Nat.reduceEqDiff, ↓reduceIte, reduceCtorEq, Int.reduceToNat, Int.reduceLE, Int.reduceLT, Nat.reduceAdd, Nat.reduceMul, decide_true, Bool.not_true, hbC, hmC, ac_0, ac_1, ff_3]
  refine AtCall.by (apart_gives hwC (hN0.mono hw0 kM) (hR0.mono hw0 kM) (hM9.mono hw9 kC9) (hQ9.mono hw9 kC9) ok okM (by omega) (by omega) (by omega)) ?_
  rintro v nD HD kd ⟨y, ys, O, rfl, hll, hOl, hOr, hO⟩
  obtain ⟨cs1, cs2, g1, g2, g3, g4⟩ := apart_00 hll (by have := ok.pos; omega) (hOr 0 ok.pos) okM.pos
  have hmv : Mini.mv O 0 0 = false := by rw [Bool.eq_false_iff]; intro h; exact (hO 0 0 ok.pos okM.pos).1 h hsim
  rw [hmv] at g4
  have kN := kM.trans kd
  have hwD := kd.wf hwC
  have hleD := kd.le
  have hbD := (kd.keep n0 (by omega)).trans hbC
  have hbD' := (kd.keep (n0 + 1) (by omega)).trans hbC'
  have hmD := (kd.keep n8 (by omega)).trans hmC
  have pos1 : ((0 : Int) < (N.length : Int)) = True := by have := ok.pos; simp only [eq_iff_iff, iff_true]; omega
  have pos2 : ((0 : Int) < (M.length : Int)) = True := by have := okM.pos; simp only [eq_iff_iff, iff_true]; omega
  simp (config := { maxSteps := 1000000 }) only [SS, forall_const, wx, tguard, acallee, top, tval, fput, tor, vsh, vbin, vun, tload, tload2, tload3, tstore, tstore2, tstore3, Go.AM.splice, one, tidx, tidx2, tidx3, tfa, tfa2, tlen2, tlen3, tpick, tbox, talloc, still, still1, flat1, Int.reduceEq, Int.reduceNeg, Nat.reduceGT, Nat.reduceLT, Nat.reduceLeDiff, Nat.reduceEqDiff, ↓reduceIte, reduceCtorEq, Int.reduceToNat, Int.reduceLE, Int.reduceLT, Nat.reduceAdd, Nat.reduceMul, g1, g2, g3, g4, pos1, pos2, Int.toNat_zero, Nat.zero_add, ff_3]
  repeat (first | apply WK.seq | apply WK.block | apply WK.skipSeq | apply WK.skipBlock | apply WK.retSeq | apply WK.retBlock | apply WK.exitSeq | apply WK.exitHere | refine WK.exitOn rfl ?_ | ((first | (refine WK.rgn ?_ ?_; kernel_rfl) | refine AtCall.now ?_); simp (config := { maxSteps := 1000000 }) only [SS, forall_const, wx, tguard, acallee, top, tval, fput, tor, vsh, vbin, vun, tload, tload2, tload3, tstore, tstore2, tstore3, Go.AM.splice, one, tidx, tidx2, tidx3, tfa, tfa2, tlen2, tlen3, tpick, tbox, talloc, still, still1, flat1, Int.reduceEq, Int.reduceNeg, Nat.reduceGT, Nat.reduceLT, Nat.reduceLeDiff, Nat.reduceEqDiff, ↓reduceIte, reduceCtorEq, Int.reduceToNat, Int.reduceLE, Int.reduceLT, Nat.reduceAdd, Nat.reduceMul, hbD', ac_all, ac_len, ff_3]) | (refine WK.condT ?_ ?_; focus (simp only [ev_tmp, ev_const, fset_apply, Nat.reduceEqDiff, ↓reduceIte, decide_true, decide_false, hbD', ac_all, ac_len, ff_3]; done)) | (refine WK.condF ?_ ?_; focus (simp only [ev_tmp, ev_const, fset_apply, Nat.reduceEqDiff, ↓reduceIte, decide_true, decide_false, hbD', ac_all, ac_len, ff_3]; done)))
  refine AtCall.by (right_gives hwD (hd0'.mono hw0 kN) ws') ?_
  rintro v nE HE ke rfl
  have kO := kN.trans ke
  have hwE := ke.wf hwD
  have hleE := ke.le
  have hbE := (ke.keep n0 (by omega)).trans hbD
  have hbE' := (ke.keep (n0 + 1) (by omega)).trans hbD'
  rw [hrb']
  cases rb' with
  | false =>
    simp (config := { maxSteps := 1000000 }) only [SS, forall_const, wx, tguard, acallee, top, tval, fput, tor, vsh, vbin, vun, tload, tload2, tload3, tstore, tstore2, tstore3, Go.AM.splice, one, tidx, tidx2, tidx3, tfa, tfa2, tlen2, tlen3, tpick, tbox, talloc, still, still1, flat1, Int.reduceEq, Int.reduceNeg, Nat.reduceGT, Nat.reduceLT, Nat.reduceLeDiff, Nat.reduceEqDiff, ↓reduceIte, reduceCtorEq, Int.reduceToNat, Int.reduceLE, Int.reduceLT, Nat.reduceAdd, Nat.reduceMul, Bool.not_false, ff_3]
    repeat (first | apply WK.seq | apply WK.block | apply WK.skipSeq | apply WK.skipBlock | apply WK.retSeq | apply WK.retBlock | apply WK.exitSeq | apply WK.exitHere | refine WK.exitOn rfl ?_ | ((first | (refine WK.rgn ?_ ?_; kernel_rfl) | refine AtCall.now ?_); simp (config := { maxSteps := 1000000 }) only [SS, forall_const, wx, tguard, acallee, top, tval, fput, tor, vsh, vbin, vun, tload, tload2, tload3, tstore, tstore2, tstore3, Go.AM.splice, one, tidx, tidx2, tidx3, tfa, tfa2, tlen2, tlen3, tpick, tbox, talloc, still, still1, flat1, Int.reduceEq, Int.reduceNeg, Nat.reduceGT, Nat.reduceLT, Nat.reduceLeDiff, Nat.reduceEqDiff, ↓reduceIte, reduceCtorEq, Int.reduceToNat, Int.reduceLE, Int.reduceLT, Nat.reduceAdd, Nat.reduceMul, hbE, hbE', ac_all, ac_len, ff_3]) | (refine WK.condT ?_ ?_; focus (simp only [ev_tmp, ev_const, fset_apply, Nat.reduceEqDiff, ↓reduceIte, decide_true, decide_false, hbE, hbE', ac_all, ac_len, ff_3]; done)) | (refine WK.condF ?_ ?_; focus (simp only [ev_tmp, ev_const, fset_apply, Nat.reduceEqDiff, ↓reduceIte, decide_true, decide_false, hbE, hbE', ac_all, ac_len, ff_3]; done)))
    refine AtCall.by (msame_gives hwE (hd0.mono hw0 kO) (hd0'.mono hw0 kO) ws ws' (by omega) (by omega)) ?_
    rintro v nF HF kf ⟨t, rfl, ht⟩
    have ht : t = false := by rw [Bool.eq_false_iff]; intro h; have := (ht.1 h).2.1; rw [hrb'] at this; cases this
    subst ht
    simp (config := { maxSteps := 1000000 }) only [SS, forall_const, wx, tguard, acallee, top, tval, fput, tor, vsh, vbin, vun, tload, tload2, tload3, tstore, tstore2, tstore3, Go.AM.splice, one, tidx, tidx2, tidx3, tfa, tfa2, tlen2, tlen3, tpick, tbox, talloc, still, still1, flat1, Int.reduceEq, Int.reduceNeg, Nat.reduceGT, Nat.reduceLT, Nat.reduceLeDiff, Nat.reduceEqDiff, ↓reduceIte, reduceCtorEq, Int.reduceToNat, Int.reduceLE, Int.reduceLT, Nat.reduceAdd, Nat.reduceMul, Bool.not_false, ff_3]
    repeat (first | apply WK.seq | apply WK.block | apply WK.skipSeq | apply WK.skipBlock | apply WK.retSeq | apply WK.retBlock | apply WK.exitSeq | apply WK.exitHere | refine WK.exitOn rfl ?_ | ((first | (refine WK.rgn ?_ ?_; kernel_rfl) | refine AtCall.now ?_); simp (config := { maxSteps := 1000000 }) only [SS, forall_const, wx, tguard, acallee, top, tval, fput, tor, vsh, vbin, vun, tload, tload2, tload3, tstore, tstore2, tstore3, Go.AM.splice, one, tidx, tidx2, tidx3, tfa, tfa2, tlen2, tlen3, tpick, tbox, talloc, still, still1, flat1, Int.reduceEq, Int.reduceNeg, Nat.reduceGT, Nat.reduceLT, Nat.reduceLeDiff, Nat.reduceEqDiff, ↓reduceIte, reduceCtorEq, Int.reduceToNat, Int.reduceLE, Int.reduceLT, Nat.reduceAdd, Nat.reduceMul, ff_3]) | (refine WK.condT ?_ ?_; focus (simp only [ev_tmp, ev_const, fset_apply, Nat.reduceEqDiff, ↓reduceIte, decide_true, decide_false, ff_3]; done)) | (refine WK.condF ?_ ?_; focus (simp only [ev_tmp, ev_const, fset_apply, Nat.reduceEqDiff, ↓reduceIte, decide_true, decide_false, ff_3]; done)))
    (first | refine WK.retNil ⟨Or.inr rfl, _, rfl, ?_, ?_⟩ | refine WK.skipNil ⟨Or.inl rfl, _, rfl, ?_, ?_⟩)
    · exact (kO.trans kf).keep
    · simp only [packed, fset_apply, Nat.reduceEqDiff, ↓reduceIte, List.getD_cons_zero, List.getD_cons_succ, ff_3]
  | true =>
  have ok' := (Mini.rightB_iff N' R').1 hrb'
  have hw6N' := wid hw6a'
  have hNE := hN0.mono hw0 kO
  have hRE := hR0.mono hw0 kO
  have hNE' := hN0'.mono hw0 kO
  have hRE' := hR0'.mono hw0 kO
  have hdE := hd0.mono hw0 kO
  have hdE' := hd0'.mono hw0 kO
  have e0 : N.getD 0 [] = N[0]'ok.pos := Mini.getD_at [] ok.pos
  have e0' : N'.getD 0 [] = N'[0]'ok'.pos := Mini.getD_at [] ok'.pos
  have pos1' : ((0 : Int) < (N'.length : Int)) = True := by have := ok'.pos; simp only [eq_iff_iff, iff_true]; omega
  obtain ⟨x, q, cs, ty, own, p, ea, hx, ci, _⟩ := hNE.at ok.pos
  obtain ⟨x', q', cs', ty', own', p', ea', hx', ci', _⟩ := hNE'.at ok'.pos
  rw [Nat.add_zero] at ci ci'
  by_cases hww : (N[0]'ok.pos).length = (N'[0]'ok'.pos).length
  case neg =>
    have hww' : (((N[0]'ok.pos).length : Int) = ((N'[0]'ok'.pos).length : Int)) = False := by simp only [eq_iff_iff, iff_false]; omega
    simp (config := { maxSteps := 1000000 }) only [SS, forall_const, wx, tguard, acallee, top, tval, fput, tor, vsh, vbin, vun, tload, tload2, tload3, tstore, tstore2, tstore3, Go.AM.splice, one, tidx, tidx2, tidx3, tfa, tfa2, tlen2, tlen3, tpick, tbox, talloc, still, still1, flat1, Int.reduceEq, Int.reduceNeg, Nat.reduceGT, Nat.reduceLT, Nat.reduceLeDiff, Nat.reduceEqDiff, ↓reduceIte, reduceCtorEq, Int.reduceToNat, Int.reduceLE, Int.reduceLT, Nat.reduceAdd, Nat.reduceMul, Bool.not_true, hbE, hbE', ac_0, ac_1, ea, ea', hx, ci, hx', ci', pos1, pos1', Int.toNat_zero, Nat.add_zero, hww', ff_3]
    repeat (first | apply WK.seq | apply WK.block | apply WK.skipSeq | apply WK.skipBlock | apply WK.retSeq | apply WK.retBlock | apply WK.exitSeq | apply WK.exitHere | refine WK.exitOn rfl ?_ | ((first | (refine WK.rgn ?_ ?_; kernel_rfl) | refine AtCall.now ?_); simp (config := { maxSteps := 1000000 }) only [SS, forall_const, wx, tguard, acallee, top, tval, fput, tor, vsh, vbin, vun, tload, tload2, tload3, tstore, tstore2, tstore3, Go.AM.splice, one, tidx, tidx2, tidx3, tfa, tfa2, tlen2, tlen3, tpick, tbox, talloc, still, still1, flat1, Int.reduceEq, Int.reduceNeg, Nat.reduceGT, Nat.reduceLT, Nat.reduceLeDiff, Nat.reduceEqDiff, ↓reduceIte, reduceCtorEq, Int.reduceToNat, Int.reduceLE, Int.reduceLT, Nat.reduceAdd, Nat.reduceMul, hbE, hbE', ac_all, ac_len, ff_3]) | (refine WK.condT ?_ ?_; focus (simp only [ev_tmp, ev_const, fset_apply, Nat.reduceEqDiff, ↓reduceIte, decide_true, decide_false, hbE, hbE', ac_all, ac_len, ff_3]; done)) | (refine WK.condF ?_ ?_; focus (simp only [ev_tmp, ev_const, fset_apply, Nat.reduceEqDiff, ↓reduceIte, decide_true, decide_false, hbE, hbE', ac_all, ac_len, ff_3]; done)))
    rw [← ea, ← ea']
    refine AtCall.by (msame_gives hwE hdE hdE' ws ws' (by omega) (by omega)) ?_
    rintro v nF HF kf ⟨t, rfl, ht⟩
    have ht : t = false := by rw [Bool.eq_false_iff]; intro h; have := (ht.1 h).2.2.1; rw [e0, e0'] at this; exact hww this
    subst ht
    simp (config := { maxSteps := 1000000 }) only [SS, forall_const, wx, tguard, acallee, top, tval, fput, tor, vsh, vbin, vun, tload, tload2, tload3, tstore, tstore2, tstore3, Go.AM.splice, one, tidx, tidx2, tidx3, tfa, tfa2, tlen2, tlen3, tpick, tbox, talloc, still, still1, flat1, Int.reduceEq, Int.reduceNeg, Nat.reduceGT, Nat.reduceLT, Nat.reduceLeDiff, Nat.reduceEqDiff, ↓reduceIte, reduceCtorEq, Int.reduceToNat, Int.reduceLE, Int.reduceLT, Nat.reduceAdd, Nat.reduceMul, Bool.not_false, ff_3]
    repeat (first | apply WK.seq | apply WK.block | apply WK.skipSeq | apply WK.skipBlock | apply WK.retSeq | apply WK.retBlock | apply WK.exitSeq | apply WK.exitHere | refine WK.exitOn rfl ?_ | ((first | (refine WK.rgn ?_ ?_; kernel_rfl) | refine AtCall.now ?_); simp (config := { maxSteps := 1000000 }) only [SS, forall_const, wx, tguard, acallee, top, tval, fput, tor, vsh, vbin, vun, tload, tload2, tload3, tstore, tstore2, tstore3, Go.AM.splice, one, tidx, tidx2, tidx3, tfa, tfa2, tlen2, tlen3, tpick, tbox, talloc, still, still1, flat1, Int.reduceEq, Int.reduceNeg, Nat.reduceGT, Nat.reduceLT, Nat.reduceLeDiff, Nat.reduceEqDiff, ↓reduceIte, reduceCtorEq, Int.reduceToNat, Int.reduceLE, Int.reduceLT, Nat.reduceAdd, Nat.reduceMul, ff_3]) | (refine WK.condT ?_ ?_; focus (simp only [ev_tmp, ev_const, fset_apply, Nat.reduceEqDiff, ↓reduceIte, decide_true, decide_false, ff_3]; done)) | (refine WK.condF ?_ ?_; focus (simp only [ev_tmp, ev_const, fset_apply, Nat.reduceEqDiff, ↓reduceIte, decide_true, decide_false, ff_3]; done)))
    (first | refine WK.retNil ⟨Or.inr rfl, _, rfl, ?_, ?_⟩ | refine WK.skipNil ⟨Or.inl rfl, _, rfl, ?_, ?_⟩)
    · exact (kO.trans kf).keep
    · simp only [packed, fset_apply, Nat.reduceEqDiff, ↓reduceIte, List.getD_cons_zero, List.getD_cons_succ, ff_3]
  have hww' : (((N[0]'ok.pos).length : Int) = ((N'[0]'ok'.pos).length : Int)) = True := by simp only [eq_iff_iff, iff_true]; omega
  simp (config := { maxSteps := 1000000 }) only [SS, forall_const, wx, tguard, acallee, top, tval, fput, tor, vsh, vbin, vun, tload, tload2, tload3, tstore, tstore2, tstore3, Go.AM.splice, one, tidx, tidx2, tidx3, tfa, tfa2, tlen2, tlen3, tpick, tbox, talloc, still, still1, flat1, Int.reduceEq, Int.reduceNeg, Nat.reduceGT, Nat.reduceLT, Nat.reduceLeDiff, Nat.reduceEqDiff, ↓reduceIte, reduceCtorEq, Int.reduceToNat, Int.reduceLE, Int.reduceLT, Nat.reduceAdd, Nat.reduceMul, Bool.not_true, hbE, hbE', ac_0, ac_1, ea, ea', hx, ci, hx', ci', pos1, pos1', Int.toNat_zero, Nat.add_zero, hww', ff_3]
  repeat (first | apply WK.seq | apply WK.block | apply WK.skipSeq | apply WK.skipBlock | apply WK.retSeq | apply WK.retBlock | apply WK.exitSeq | apply WK.exitHere | refine WK.exitOn rfl ?_ | ((first | (refine WK.rgn ?_ ?_; kernel_rfl) | refine AtCall.now ?_); simp (config := { maxSteps := 1000000 }) only [SS, forall_const, wx, tguard, acallee, top, tval, fput, tor, vsh, vbin, vun, tload, tload2, tload3, tstore, tstore2, tstore3, Go.AM.splice, one, tidx, tidx2, tidx3, tfa, tfa2, tlen2, tlen3, tpick, tbox, talloc, still, still1, flat1, Int.reduceEq, Int.reduceNeg, Nat.reduceGT, Nat.reduceLT, Nat.reduceLeDiff, Nat.reduceEqDiff, ↓reduceIte, reduceCtorEq, Int.reduceToNat, Int.reduceLE, Int.reduceLT, Nat.reduceAdd, Nat.reduceMul, hbE, hbE', ac_all, ac_len, ff_3]) | (refine WK.condT ?_ ?_; focus (simp only [ev_tmp, ev_const, fset_apply, Nat.reduceEqDiff, ↓reduceIte, decide_true, decide_false, hbE, hbE', ac_all, ac_len, ff_3]; done)) | (refine WK.condF ?_ ?_; focus (simp only [ev_tmp, ev_const, fset_apply, Nat.reduceEqDiff, ↓reduceIte, decide_true, decide_false, hbE, hbE', ac_all, ac_len, ff_3]; done)))
  rw [← ea, ← ea']
  refine AtCall.by (msame_gives hwE hdE hdE' ws ws' (by omega) (by omega)) ?_
  rintro v nF HF kf ⟨t, rfl, ht⟩
  have kP := kO.trans kf
  have hwF := kf.wf hwE
  have hleF := kf.le
  have hbF := (kf.keep n0 (by omega)).trans hbE
  have hbF' := (kf.keep (n0 + 1) (by omega)).trans hbE'
  simp (config := { maxSteps := 1000000 }) only [SS, forall_const, wx, tguard, acallee, top, tval, fput, tor, vsh, vbin, vun, tload, tload2, tload3, tstore, tstore2, tstore3, Go.AM.splice, one, tidx, tidx2, tidx3, tfa, tfa2, tlen2, tlen3, tpick, tbox, talloc, still, still1, flat1, Int.reduceEq, Int.reduceNeg, Nat.reduceGT, Nat.reduceLT, Nat.reduceLeDiff, Nat.reduceEqDiff, ↓reduceIte, reduceCtorEq, Int.reduceToNat, Int.reduceLE, Int.reduceLT, Nat.reduceAdd, Nat.reduceMul, hbF, hbF', ac_0, ac_1, ff_3]
  have okW : Mini.Ok N' R' (N.getD 0 []).length := by rw [e0, hww, ← e0']; exact ok'
  refine AtCall.by (apart_gives hwF (hN0.mono hw0 kP) (hR0.mono hw0 kP) (hN0'.mono hw0 kP) (hR0'.mono hw0 kP) ok okW (by omega) (by omega) (by omega)) ?_
  rintro v nG HG kg ⟨y2, ys2, O2, rfl, hll2, hOl2, hOr2, hO2⟩
  obtain ⟨ds1, ds2, u1, u2, u3, u4⟩ := apart_00 hll2 (by have := ok.pos; omega) (hOr2 0 ok.pos) ok'.pos
  have htm : t = !Mini.mv O2 0 0 := by
    have h1 := hO2 0 0 ok.pos ok'.pos
    cases hmv2 : Mini.mv O2 0 0 with
    | true =>
      have := h1.1 hmv2
      rw [Bool.eq_false_iff.2 (fun h => this (ht.1 h).2.2.2)]; rfl
    | false =>
      have hs : Mini.Sim N R N' R' (N.getD 0 []).length 0 0 := Classical.byContradiction fun hn => by rw [h1.2 hn] at hmv2; cases hmv2
      rw [ht.2 ⟨hrb, hrb', by rw [e0, e0']; exact hww, hs⟩]; rfl
  subst htm
  obtain ⟨mb, hmb⟩ : ∃ mb, Mini.mv O2 0 0 = mb := ⟨_, rfl⟩
  rw [hmb] at u4 ⊢
  simp (config := { maxSteps := 1000000 }) only [SS, forall_const, wx, tguard, acallee, top, tval, fput, tor, vsh, vbin, vun, tload, tload2, tload3, tstore, tstore2, tstore3, Go.AM.splice, one, tidx, tidx2, tidx3, tfa, tfa2, tlen2, tlen3, tpick, tbox, talloc, still, still1, flat1, Int.reduceEq, Int.reduceNeg, Nat.reduceGT, Nat.reduceLT, Nat.reduceLeDiff, Nat.reduceEqDiff, ↓reduceIte, reduceCtorEq, Int.reduceToNat, Int.reduceLE, Int.reduceLT, Nat.reduceAdd, Nat.reduceMul, u1, u2, u3, u4, pos1, pos1', Int.toNat_zero, Nat.zero_add, beq_self_eq_true, ff_3]
  repeat (first | apply WK.seq | apply WK.block | apply WK.skipSeq | apply WK.skipBlock | apply WK.retSeq | apply WK.retBlock | apply WK.exitSeq | apply WK.exitHere | refine WK.exitOn rfl ?_ | ((first | (refine WK.rgn ?_ ?_; kernel_rfl) | refine AtCall.now ?_); simp (config := { maxSteps := 1000000 }) only [SS, forall_const, wx, tguard, acallee, top, tval, fput, tor, vsh, vbin, vun, tload, tload2, tload3, tstore, tstore2, tstore3, Go.AM.splice, one, tidx, tidx2, tidx3, tfa, tfa2, tlen2, tlen3, tpick, tbox, talloc, still, still1, flat1, Int.reduceEq, Int.reduceNeg, Nat.reduceGT, Nat.reduceLT, Nat.reduceLeDiff, Nat.reduceEqDiff, ↓reduceIte, reduceCtorEq, Int.reduceToNat, Int.reduceLE, Int.reduceLT, Nat.reduceAdd, Nat.reduceMul, ff_3]) | (refine WK.condT ?_ ?_; focus (simp only [ev_tmp, ev_const, fset_apply, Nat.reduceEqDiff, ↓reduceIte, decide_true, decide_false, ff_3]; done)) | (refine WK.condF ?_ ?_; focus (simp only [ev_tmp, ev_const, fset_apply, Nat.reduceEqDiff, ↓reduceIte, decide_true, decide_false, ff_3]; done)))
  (first | refine WK.retNil ⟨Or.inr rfl, _, rfl, ?_, ?_⟩ | refine WK.skipNil ⟨Or.inl rfl, _, rfl, ?_, ?_⟩)
  · exact (kP.trans kg).keep
  · simp only [packed, fset_apply, Nat.reduceEqDiff, ↓reduceIte, List.getD_cons_zero, List.getD_cons_succ, ff_3]
end Go.Proofs.YtgnmaekfiifepaaDoor
