/- A part of a proof. Its conditions: none. -/
import Derived.Test.YtihjaobjhmmboaaGreatDoorAmUUseTells
import Derived.Test.YtihjaobjhmmboaaGreatDoorAmUUseYield
import Derived.Test.YtihjaobjhmmboaaGreatDoorAmUUseWide
import Derived.Test.YtihjaobjhmmboaaGreatDoorAmULfShort
set_option linter.all false
namespace Go.Proofs.YtihjaobjhmmboaaGreatDoor
open Go.AM
set_option maxRecDepth 100000

theorem lead_word {w : List Int} (h : ∀ s ∈ w, s < 0) : leadP w = -1 ∧ (leadV w).length = w.length := by
  obtain ⟨e1, e2⟩ := tw_all h
  unfold leadP leadV
  rw [e1, e2]
  simp

set_option maxHeartbeats 16000000 in
theorem shortestLaw_gives {v : Value} {g : Gram} {a : Int} {n : Nat} {H : Heap} (hw : WF n H) (hG : ∀ x, G x ≠ .dead → H x = G x) (hg : RG H v g) (wg : WG g) :
    Gives Tryz.prog 4 [v, .int .i64 a] n H fun v _ _ => v = .bool true := by
  have hg0 := hg
  obtain ⟨pt, pv, pr, rfl, ht, hv, hr⟩ := hg
  refine Gives.of orders ok4 (Nat.le_of_ble_eq_true rfl) ?_
  have hk := Kp.new n H (.cells (gcells pt pv pr g) 25 true)
  have hb := hset_at H n (.cells (gcells pt pv pr g) 25 true)
  have hG1 : ∀ x, G x ≠ .dead → hset H n (.cells (gcells pt pv pr g) 25 true) x = G x := fun x hx => by
    rw [hk.keep x, hG x hx]
    apply Classical.byContradiction
    intro hc
    rw [← hG x hx, hw x (by omega)] at hx
    exact hx rfl
-- function 4
  repeat (first | apply WK.seq | apply WK.block | apply WK.skipSeq | apply WK.skipBlock | apply WK.retSeq | apply WK.retBlock | apply WK.exitSeq | apply WK.exitHere | refine WK.exitOn rfl ?_)
  (refine WK.rgn ?_ ?_; kernel_rfl; simp (config := { maxSteps := 1000000 }) only [SS, forall_const, wx, tguard, acallee, top, tval, fput, tor, vsh, vbin, vun, tload, tload2, tload3, tidx, tidx2, tidx3, tfa, tfa2, tlen2, tpick, textr, tbox, one, tbs, tbs2, afill, Go.AM.splice, Int.reduceEq, Int.reduceNeg, Nat.reduceGT, Nat.reduceLT, Nat.reduceLeDiff, Nat.reduceEqDiff, ↓reduceIte, reduceCtorEq, Int.reduceToNat, Int.reduceLE, Int.reduceLT, Nat.reduceAdd, Nat.reduceMul, box_cells, box_one, ff_4])
  generalize hset H n (.cells (gcells pt pv pr g) 25 true) = H1 at *
  repeat (first | apply WK.seq | apply WK.block | apply WK.skipSeq | apply WK.skipBlock | apply WK.retSeq | apply WK.retBlock | apply WK.exitSeq | apply WK.exitHere | refine WK.exitOn rfl ?_)
  (refine WK.rgn ?_ ?_; kernel_rfl; simp (config := { maxSteps := 1000000 }) only [SS, forall_const, wx, tguard, acallee, top, tval, fput, tor, vsh, vbin, vun, tload, tload2, tload3, tidx, tidx2, tidx3, tfa, tfa2, tlen2, tpick, textr, tbox, one, tbs, tbs2, afill, Go.AM.splice, Int.reduceEq, Int.reduceNeg, Nat.reduceGT, Nat.reduceLT, Nat.reduceLeDiff, Nat.reduceEqDiff, ↓reduceIte, reduceCtorEq, Int.reduceToNat, Int.reduceLE, Int.reduceLT, Nat.reduceAdd, Nat.reduceMul, ff_4])
  refine AtCall.by (alive_gives _ _ hG1) ?_
  rintro v n' H' hk' ⟨rfl, rfl, rfl⟩
  simp (config := { maxSteps := 1000000 }) only [SS, forall_const, wx, tguard, acallee, top, tval, fput, tor, vsh, vbin, vun, tload, tload2, tload3, tidx, tidx2, tidx3, tfa, tfa2, tlen2, tpick, textr, tbox, one, tbs, tbs2, afill, Go.AM.splice, Int.reduceEq, Int.reduceNeg, Nat.reduceGT, Nat.reduceLT, Nat.reduceLeDiff, Nat.reduceEqDiff, ↓reduceIte, reduceCtorEq, Int.reduceToNat, Int.reduceLE, Int.reduceLT, Nat.reduceAdd, Nat.reduceMul, ff_4]
  repeat (first | apply WK.seq | apply WK.block | apply WK.skipSeq | apply WK.skipBlock | apply WK.retSeq | apply WK.retBlock | apply WK.exitSeq | apply WK.exitHere | refine WK.exitOn rfl ?_)
  first | (refine WK.condT ?_ ?_; focus (simp only [ev_tmp, ev_const, fset_apply, Nat.reduceEqDiff, ↓reduceIte, decide_true, decide_false]; done)) | (refine WK.condF ?_ ?_; focus (simp only [ev_tmp, ev_const, fset_apply, Nat.reduceEqDiff, ↓reduceIte, decide_true, decide_false]; done))
  repeat (first | apply WK.seq | apply WK.block | apply WK.skipSeq | apply WK.skipBlock | apply WK.retSeq | apply WK.retBlock | apply WK.exitSeq | apply WK.exitHere | refine WK.exitOn rfl ?_)
  (refine WK.rgn ?_ ?_; kernel_rfl; simp (config := { maxSteps := 1000000 }) only [SS, forall_const, wx, tguard, acallee, top, tval, fput, tor, vsh, vbin, vun, tload, tload2, tload3, tidx, tidx2, tidx3, tfa, tfa2, tlen2, tpick, textr, tbox, one, tbs, tbs2, afill, Go.AM.splice, Int.reduceEq, Int.reduceNeg, Nat.reduceGT, Nat.reduceLT, Nat.reduceLeDiff, Nat.reduceEqDiff, ↓reduceIte, reduceCtorEq, Int.reduceToNat, Int.reduceLE, Int.reduceLT, Nat.reduceAdd, Nat.reduceMul, hb, gc_len, gc_all, ff_4])
  refine AtCall.by (few_gives (hk.wf hw) (hg0.mono hw hk) wg) ?_
  rintro v n2 H2 k2 rfl
  cases hf : few g
  · simp (config := { maxSteps := 1000000 }) only [SS, forall_const, wx, tguard, acallee, top, tval, fput, tor, vsh, vbin, vun, tload, tload2, tload3, tidx, tidx2, tidx3, tfa, tfa2, tlen2, tpick, textr, tbox, one, tbs, tbs2, afill, Go.AM.splice, Int.reduceEq, Int.reduceNeg, Nat.reduceGT, Nat.reduceLT, Nat.reduceLeDiff, Nat.reduceEqDiff, ↓reduceIte, reduceCtorEq, Int.reduceToNat, Int.reduceLE, Int.reduceLT, Nat.reduceAdd, Nat.reduceMul, ff_4]
    repeat (first | apply WK.seq | apply WK.block | apply WK.skipSeq | apply WK.skipBlock | apply WK.retSeq | apply WK.retBlock | apply WK.exitSeq | apply WK.exitHere | refine WK.exitOn rfl ?_ | ((first | (refine WK.rgn ?_ ?_; kernel_rfl) | refine AtCall.now ?_); simp (config := { maxSteps := 1000000 }) only [SS, forall_const, wx, tguard, acallee, top, tval, fput, tor, vsh, vbin, vun, tload, tload2, tload3, tidx, tidx2, tidx3, tfa, tfa2, tlen2, tpick, textr, tbox, one, tbs, tbs2, afill, Go.AM.splice, Int.reduceEq, Int.reduceNeg, Nat.reduceGT, Nat.reduceLT, Nat.reduceLeDiff, Nat.reduceEqDiff, ↓reduceIte, reduceCtorEq, Int.reduceToNat, Int.reduceLE, Int.reduceLT, Nat.reduceAdd, Nat.reduceMul, ff_4]) | (refine WK.condT ?_ ?_; focus (simp only [ev_tmp, ev_const, fset_apply, Nat.reduceEqDiff, ↓reduceIte, decide_true, decide_false, ff_4]; done)) | (refine WK.condF ?_ ?_; focus (simp only [ev_tmp, ev_const, fset_apply, Nat.reduceEqDiff, ↓reduceIte, decide_true, decide_false, ff_4]; done)))
    (first | refine WK.retNil ⟨Or.inr rfl, _, rfl, ?_, ?_⟩ | refine WK.skipNil ⟨Or.inl rfl, _, rfl, ?_, ?_⟩)
    · exact (hk.trans k2).keep
    · simp only [packed, fset_apply, Nat.reduceEqDiff, ↓reduceIte, List.getD_cons_zero, List.getD_cons_succ, ff_4]
  have kk2 := hk.trans k2
  have hb2 := (k2.keep n (by omega)).trans hb
  simp (config := { maxSteps := 1000000 }) only [SS, forall_const, wx, tguard, acallee, top, tval, fput, tor, vsh, vbin, vun, tload, tload2, tload3, tidx, tidx2, tidx3, tfa, tfa2, tlen2, tpick, textr, tbox, one, tbs, tbs2, afill, Go.AM.splice, Int.reduceEq, Int.reduceNeg, Nat.reduceGT, Nat.reduceLT, Nat.reduceLeDiff, Nat.reduceEqDiff, ↓reduceIte, reduceCtorEq, Int.reduceToNat, Int.reduceLE, Int.reduceLT, Nat.reduceAdd, Nat.reduceMul, hb2, gc_len, gc_all, ff_4]
  refine AtCall.by (right_gives (kk2.wf hw) (hg0.mono hw kk2) wg) ?_
  rintro v n3 H3 k3 ⟨t, rfl, hok⟩
  have kk3 := kk2.trans k3
  cases t
  · simp (config := { maxSteps := 1000000 }) only [SS, forall_const, wx, tguard, acallee, top, tval, fput, tor, vsh, vbin, vun, tload, tload2, tload3, tidx, tidx2, tidx3, tfa, tfa2, tlen2, tpick, textr, tbox, one, tbs, tbs2, afill, Go.AM.splice, Int.reduceEq, Int.reduceNeg, Nat.reduceGT, Nat.reduceLT, Nat.reduceLeDiff, Nat.reduceEqDiff, ↓reduceIte, reduceCtorEq, Int.reduceToNat, Int.reduceLE, Int.reduceLT, Nat.reduceAdd, Nat.reduceMul, ff_4]
    repeat (first | apply WK.seq | apply WK.block | apply WK.skipSeq | apply WK.skipBlock | apply WK.retSeq | apply WK.retBlock | apply WK.exitSeq | apply WK.exitHere | refine WK.exitOn rfl ?_ | ((first | (refine WK.rgn ?_ ?_; kernel_rfl) | refine AtCall.now ?_); simp (config := { maxSteps := 1000000 }) only [SS, forall_const, wx, tguard, acallee, top, tval, fput, tor, vsh, vbin, vun, tload, tload2, tload3, tidx, tidx2, tidx3, tfa, tfa2, tlen2, tpick, textr, tbox, one, tbs, tbs2, afill, Go.AM.splice, Int.reduceEq, Int.reduceNeg, Nat.reduceGT, Nat.reduceLT, Nat.reduceLeDiff, Nat.reduceEqDiff, ↓reduceIte, reduceCtorEq, Int.reduceToNat, Int.reduceLE, Int.reduceLT, Nat.reduceAdd, Nat.reduceMul, ff_4]) | (refine WK.condT ?_ ?_; focus (simp only [ev_tmp, ev_const, fset_apply, Nat.reduceEqDiff, ↓reduceIte, decide_true, decide_false, ff_4]; done)) | (refine WK.condF ?_ ?_; focus (simp only [ev_tmp, ev_const, fset_apply, Nat.reduceEqDiff, ↓reduceIte, decide_true, decide_false, ff_4]; done)))
    (first | refine WK.retNil ⟨Or.inr rfl, _, rfl, ?_, ?_⟩ | refine WK.skipNil ⟨Or.inl rfl, _, rfl, ?_, ?_⟩)
    · exact kk3.keep
    · simp only [packed, fset_apply, Nat.reduceEqDiff, ↓reduceIte, List.getD_cons_zero, List.getD_cons_succ, ff_4]
  have ok := hok rfl
  have hi := ok.inG
  have hn2 := k2.le
  have hn3 := k3.le
  have hb3 := (k3.keep n (by omega)).trans hb2
  have hv64 := ok.vars
  have hrl := ok.rules
  have hfar : farN = 1073741824 := rfl
  by_cases ha0 : a < 0
  · simp (config := { maxSteps := 1000000 }) only [SS, forall_const, wx, tguard, acallee, top, tval, fput, tor, vsh, vbin, vun, tload, tload2, tload3, tidx, tidx2, tidx3, tfa, tfa2, tlen2, tpick, textr, tbox, one, tbs, tbs2, afill, Go.AM.splice, Int.reduceEq, Int.reduceNeg, Nat.reduceGT, Nat.reduceLT, Nat.reduceLeDiff, Nat.reduceEqDiff, ↓reduceIte, reduceCtorEq, Int.reduceToNat, Int.reduceLE, Int.reduceLT, Nat.reduceAdd, Nat.reduceMul, ha0, ff_4]
    repeat (first | apply WK.seq | apply WK.block | apply WK.skipSeq | apply WK.skipBlock | apply WK.retSeq | apply WK.retBlock | apply WK.exitSeq | apply WK.exitHere | refine WK.exitOn rfl ?_ | ((first | (refine WK.rgn ?_ ?_; kernel_rfl) | refine AtCall.now ?_); simp (config := { maxSteps := 1000000 }) only [SS, forall_const, wx, tguard, acallee, top, tval, fput, tor, vsh, vbin, vun, tload, tload2, tload3, tidx, tidx2, tidx3, tfa, tfa2, tlen2, tpick, textr, tbox, one, tbs, tbs2, afill, Go.AM.splice, Int.reduceEq, Int.reduceNeg, Nat.reduceGT, Nat.reduceLT, Nat.reduceLeDiff, Nat.reduceEqDiff, ↓reduceIte, reduceCtorEq, Int.reduceToNat, Int.reduceLE, Int.reduceLT, Nat.reduceAdd, Nat.reduceMul, ff_4]) | (refine WK.condT ?_ ?_; focus (simp only [ev_tmp, ev_const, fset_apply, Nat.reduceEqDiff, ↓reduceIte, decide_true, decide_false, ff_4]; done)) | (refine WK.condF ?_ ?_; focus (simp only [ev_tmp, ev_const, fset_apply, Nat.reduceEqDiff, ↓reduceIte, decide_true, decide_false, ff_4]; done)))
    (first | refine WK.retNil ⟨Or.inr rfl, _, rfl, ?_, ?_⟩ | refine WK.skipNil ⟨Or.inl rfl, _, rfl, ?_, ?_⟩)
    · exact kk3.keep
    · simp only [packed, fset_apply, Nat.reduceEqDiff, ↓reduceIte, List.getD_cons_zero, List.getD_cons_succ, ff_4]
  by_cases ha1 : (g.vars.length : Int) ≤ a
  · simp (config := { maxSteps := 1000000 }) only [SS, forall_const, wx, tguard, acallee, top, tval, fput, tor, vsh, vbin, vun, tload, tload2, tload3, tidx, tidx2, tidx3, tfa, tfa2, tlen2, tpick, textr, tbox, one, tbs, tbs2, afill, Go.AM.splice, Int.reduceEq, Int.reduceNeg, Nat.reduceGT, Nat.reduceLT, Nat.reduceLeDiff, Nat.reduceEqDiff, ↓reduceIte, reduceCtorEq, Int.reduceToNat, Int.reduceLE, Int.reduceLT, Nat.reduceAdd, Nat.reduceMul, ha0, hb3, gc_1, ha1, ff_4]
    repeat (first | apply WK.seq | apply WK.block | apply WK.skipSeq | apply WK.skipBlock | apply WK.retSeq | apply WK.retBlock | apply WK.exitSeq | apply WK.exitHere | refine WK.exitOn rfl ?_ | ((first | (refine WK.rgn ?_ ?_; kernel_rfl) | refine AtCall.now ?_); simp (config := { maxSteps := 1000000 }) only [SS, forall_const, wx, tguard, acallee, top, tval, fput, tor, vsh, vbin, vun, tload, tload2, tload3, tidx, tidx2, tidx3, tfa, tfa2, tlen2, tpick, textr, tbox, one, tbs, tbs2, afill, Go.AM.splice, Int.reduceEq, Int.reduceNeg, Nat.reduceGT, Nat.reduceLT, Nat.reduceLeDiff, Nat.reduceEqDiff, ↓reduceIte, reduceCtorEq, Int.reduceToNat, Int.reduceLE, Int.reduceLT, Nat.reduceAdd, Nat.reduceMul, ff_4]) | (refine WK.condT ?_ ?_; focus (simp only [ev_tmp, ev_const, fset_apply, Nat.reduceEqDiff, ↓reduceIte, decide_true, decide_false, ff_4]; done)) | (refine WK.condF ?_ ?_; focus (simp only [ev_tmp, ev_const, fset_apply, Nat.reduceEqDiff, ↓reduceIte, decide_true, decide_false, ff_4]; done)))
    (first | refine WK.retNil ⟨Or.inr rfl, _, rfl, ?_, ?_⟩ | refine WK.skipNil ⟨Or.inl rfl, _, rfl, ?_, ?_⟩)
    · exact kk3.keep
    · simp only [packed, fset_apply, Nat.reduceEqDiff, ↓reduceIte, List.getD_cons_zero, List.getD_cons_succ, ff_4]
  obtain ⟨u0, rfl⟩ : ∃ u : Nat, a = u := ⟨a.toNat, by omega⟩
  have hu0 : u0 < g.vars.length := by omega
  have hu0' : ¬ g.vars.length ≤ u0 := by omega
  have hneg : ((u0 : Int) < 0) = False := by simp
  simp (config := { maxSteps := 1000000 }) only [SS, forall_const, wx, tguard, acallee, top, tval, fput, tor, vsh, vbin, vun, tload, tload2, tload3, tidx, tidx2, tidx3, tfa, tfa2, tlen2, tpick, textr, tbox, one, tbs, tbs2, afill, Go.AM.splice, Int.reduceEq, Int.reduceNeg, Nat.reduceGT, Nat.reduceLT, Nat.reduceLeDiff, Nat.reduceEqDiff, ↓reduceIte, reduceCtorEq, Int.reduceToNat, Int.reduceLE, Int.reduceLT, Nat.reduceAdd, Nat.reduceMul, hneg, hb3, gc_1, hu0', ff_4]
  repeat (first | apply WK.seq | apply WK.block | apply WK.skipSeq | apply WK.skipBlock | apply WK.retSeq | apply WK.retBlock | apply WK.exitSeq | apply WK.exitHere | refine WK.exitOn rfl ?_ | ((first | (refine WK.rgn ?_ ?_; kernel_rfl) | refine AtCall.now ?_); simp (config := { maxSteps := 1000000 }) only [SS, forall_const, wx, tguard, acallee, top, tval, fput, tor, vsh, vbin, vun, tload, tload2, tload3, tidx, tidx2, tidx3, tfa, tfa2, tlen2, tpick, textr, tbox, one, tbs, tbs2, afill, Go.AM.splice, Int.reduceEq, Int.reduceNeg, Nat.reduceGT, Nat.reduceLT, Nat.reduceLeDiff, Nat.reduceEqDiff, ↓reduceIte, reduceCtorEq, Int.reduceToNat, Int.reduceLE, Int.reduceLT, Nat.reduceAdd, Nat.reduceMul, hb3, gc_len, gc_all, ff_4]) | (refine WK.condT ?_ ?_; focus (simp only [ev_tmp, ev_const, fset_apply, Nat.reduceEqDiff, ↓reduceIte, decide_true, decide_false, hb3, gc_len, gc_all, ff_4]; done)) | (refine WK.condF ?_ ?_; focus (simp only [ev_tmp, ev_const, fset_apply, Nat.reduceEqDiff, ↓reduceIte, decide_true, decide_false, hb3, gc_len, gc_all, ff_4]; done)))
  refine AtCall.by (shortest_gives (a := (u0 : Int)) (kk3.wf hw) (hg0.mono hw kk3) wg ok) ?_
  rintro v n4 H4 k4 ⟨c, b, _, hbB, res, t, p, rfl, hrs, hS⟩
  have kk4 := kk3.trans k4
  have hn4 := k4.le
  have hb4 := (k4.keep n (by omega)).trans hb3
  have hw4 := kk4.wf hw
  simp (config := { maxSteps := 1000000 }) only [SS, forall_const, wx, tguard, acallee, top, tval, fput, tor, vsh, vbin, vun, tload, tload2, tload3, tidx, tidx2, tidx3, tfa, tfa2, tlen2, tpick, textr, tbox, one, tbs, tbs2, afill, Go.AM.splice, Int.reduceEq, Int.reduceNeg, Nat.reduceGT, Nat.reduceLT, Nat.reduceLeDiff, Nat.reduceEqDiff, ↓reduceIte, reduceCtorEq, Int.reduceToNat, Int.reduceLE, Int.reduceLT, Nat.reduceAdd, Nat.reduceMul, ff_4]
  repeat (first | apply WK.seq | apply WK.block | apply WK.skipSeq | apply WK.skipBlock | apply WK.retSeq | apply WK.retBlock | apply WK.exitSeq | apply WK.exitHere | refine WK.exitOn rfl ?_ | ((first | (refine WK.rgn ?_ ?_; kernel_rfl) | refine AtCall.now ?_); simp (config := { maxSteps := 1000000 }) only [SS, forall_const, wx, tguard, acallee, top, tval, fput, tor, vsh, vbin, vun, tload, tload2, tload3, tidx, tidx2, tidx3, tfa, tfa2, tlen2, tpick, textr, tbox, one, tbs, tbs2, afill, Go.AM.splice, Int.reduceEq, Int.reduceNeg, Nat.reduceGT, Nat.reduceLT, Nat.reduceLeDiff, Nat.reduceEqDiff, ↓reduceIte, reduceCtorEq, Int.reduceToNat, Int.reduceLE, Int.reduceLT, Nat.reduceAdd, Nat.reduceMul, hb4, gc_len, gc_all, ff_4]) | (refine WK.condT ?_ ?_; focus (simp only [ev_tmp, ev_const, fset_apply, Nat.reduceEqDiff, ↓reduceIte, decide_true, decide_false, hb4, gc_len, gc_all, ff_4]; done)) | (refine WK.condF ?_ ?_; focus (simp only [ev_tmp, ev_const, fset_apply, Nat.reduceEqDiff, ↓reduceIte, decide_true, decide_false, hb4, gc_len, gc_all, ff_4]; done)))
  refine AtCall.by (cost_gives hw4 (hg0.mono hw kk4) wg ok) ?_
  rintro v n5 H5 k5 ⟨cl, bl, rfl, hc5, hb5', hcl, hbl, hOK, hbB2⟩
  have kk5 := kk4.trans k5
  have hn5 := k5.le
  have hb5 := (k5.keep n (by omega)).trans hb4
  have hw5 := kk5.wf hw
  have hbb : b = bF bl := hbB.trans hbB2.symm
  subst hbb
  obtain ⟨ord, hrk, hall⟩ := hOK.ranked
  have hucl : u0 < cl.length := by omega
  have hgc : (cl.map natC)[u0]? = some (.int .i64 (cl[u0] : Nat)) := by rw [List.getElem?_map, List.getElem?_eq_getElem hucl]; rfl
  have hcu : cF cl u0 = cl[u0] := by simp [cF, hucl]
  cases t
  · -- none is told
    obtain ⟨rfl, hor⟩ := hS.2 rfl
    have h00 : (((0 : Nat) : Int) = 0) = True := by simp
    simp (config := { maxSteps := 1000000 }) only [SS, forall_const, wx, tguard, acallee, top, tval, fput, tor, vsh, vbin, vun, tload, tload2, tload3, tidx, tidx2, tidx3, tfa, tfa2, tlen2, tpick, textr, tbox, one, tbs, tbs2, afill, Go.AM.splice, Int.reduceEq, Int.reduceNeg, Nat.reduceGT, Nat.reduceLT, Nat.reduceLeDiff, Nat.reduceEqDiff, ↓reduceIte, reduceCtorEq, Int.reduceToNat, Int.reduceLE, Int.reduceLT, Nat.reduceAdd, Nat.reduceMul, ff_4]
    by_cases hF : ((cl[u0] : Nat) : Int) = 1073741824
    · have hF' : (((cl[u0] : Nat) : Int) = 1073741824) = True := eq_true hF
      repeat (first | apply WK.seq | apply WK.block | apply WK.skipSeq | apply WK.skipBlock | apply WK.retSeq | apply WK.retBlock | apply WK.exitSeq | apply WK.exitHere | refine WK.exitOn rfl ?_ | ((first | (refine WK.rgn ?_ ?_; kernel_rfl) | refine AtCall.now ?_); simp (config := { maxSteps := 1000000 }) only [SS, forall_const, wx, tguard, acallee, top, tval, fput, tor, vsh, vbin, vun, tload, tload2, tload3, tidx, tidx2, tidx3, tfa, tfa2, tlen2, tpick, textr, tbox, one, tbs, tbs2, afill, Go.AM.splice, Int.reduceEq, Int.reduceNeg, Nat.reduceGT, Nat.reduceLT, Nat.reduceLeDiff, Nat.reduceEqDiff, ↓reduceIte, reduceCtorEq, Int.reduceToNat, Int.reduceLE, Int.reduceLT, Nat.reduceAdd, Nat.reduceMul, h00, hu0, hc5, hgc, hF', ff_4]) | (refine WK.condT ?_ ?_; focus (simp only [ev_tmp, ev_const, fset_apply, Nat.reduceEqDiff, ↓reduceIte, decide_true, decide_false, h00, hu0, hc5, hgc, hF', ff_4]; done)) | (refine WK.condF ?_ ?_; focus (simp only [ev_tmp, ev_const, fset_apply, Nat.reduceEqDiff, ↓reduceIte, decide_true, decide_false, h00, hu0, hc5, hgc, hF', ff_4]; done)))
      (first | refine WK.retNil ⟨Or.inr rfl, _, rfl, ?_, ?_⟩ | refine WK.skipNil ⟨Or.inl rfl, _, rfl, ?_, ?_⟩)
      · exact kk5.keep
      · simp only [packed, fset_apply, Nat.reduceEqDiff, ↓reduceIte, List.getD_cons_zero, List.getD_cons_succ, hF', ff_4]
    have hF' : (((cl[u0] : Nat) : Int) = 1073741824) = False := eq_false hF
    by_cases h100 : (100 : Int) < (cl[u0] : Nat)
    · have h100' : ((100 : Int) < (cl[u0] : Nat)) = True := eq_true h100
      have h100'' : 100 < cl[u0] := by omega
      repeat (first | apply WK.seq | apply WK.block | apply WK.skipSeq | apply WK.skipBlock | apply WK.retSeq | apply WK.retBlock | apply WK.exitSeq | apply WK.exitHere | refine WK.exitOn rfl ?_ | ((first | (refine WK.rgn ?_ ?_; kernel_rfl) | refine AtCall.now ?_); simp (config := { maxSteps := 1000000 }) only [SS, forall_const, wx, tguard, acallee, top, tval, fput, tor, vsh, vbin, vun, tload, tload2, tload3, tidx, tidx2, tidx3, tfa, tfa2, tlen2, tpick, textr, tbox, one, tbs, tbs2, afill, Go.AM.splice, Int.reduceEq, Int.reduceNeg, Nat.reduceGT, Nat.reduceLT, Nat.reduceLeDiff, Nat.reduceEqDiff, ↓reduceIte, reduceCtorEq, Int.reduceToNat, Int.reduceLE, Int.reduceLT, Nat.reduceAdd, Nat.reduceMul, h00, hu0, hc5, hgc, hF', h100', h100'', ff_4]) | (refine WK.condT ?_ ?_; focus (simp only [ev_tmp, ev_const, fset_apply, Nat.reduceEqDiff, ↓reduceIte, decide_true, decide_false, h00, hu0, hc5, hgc, hF', h100', h100'', ff_4]; done)) | (refine WK.condF ?_ ?_; focus (simp only [ev_tmp, ev_const, fset_apply, Nat.reduceEqDiff, ↓reduceIte, decide_true, decide_false, h00, hu0, hc5, hgc, hF', h100', h100'', ff_4]; done)))
      (first | refine WK.retNil ⟨Or.inr rfl, _, rfl, ?_, ?_⟩ | refine WK.skipNil ⟨Or.inl rfl, _, rfl, ?_, ?_⟩)
      · exact kk5.keep
      · simp only [packed, fset_apply, Nat.reduceEqDiff, ↓reduceIte, List.getD_cons_zero, List.getD_cons_succ, hF', h100', h100'', ff_4]
    have h100' : ((100 : Int) < (cl[u0] : Nat)) = False := eq_false h100
    have h100'' : ¬ 100 < cl[u0] := by omega
    repeat (first | apply WK.seq | apply WK.block | apply WK.skipSeq | apply WK.skipBlock | apply WK.retSeq | apply WK.retBlock | apply WK.exitSeq | apply WK.exitHere | refine WK.exitOn rfl ?_ | ((first | (refine WK.rgn ?_ ?_; kernel_rfl) | refine AtCall.now ?_); simp (config := { maxSteps := 1000000 }) only [SS, forall_const, wx, tguard, acallee, top, tval, fput, tor, vsh, vbin, vun, tload, tload2, tload3, tidx, tidx2, tidx3, tfa, tfa2, tlen2, tpick, textr, tbox, one, tbs, tbs2, afill, Go.AM.splice, Int.reduceEq, Int.reduceNeg, Nat.reduceGT, Nat.reduceLT, Nat.reduceLeDiff, Nat.reduceEqDiff, ↓reduceIte, reduceCtorEq, Int.reduceToNat, Int.reduceLE, Int.reduceLT, Nat.reduceAdd, Nat.reduceMul, h00, hu0, hc5, hgc, hF', h100', h100'', hb5, gc_len, gc_all, ff_4]) | (refine WK.condT ?_ ?_; focus (simp only [ev_tmp, ev_const, fset_apply, Nat.reduceEqDiff, ↓reduceIte, decide_true, decide_false, h00, hu0, hc5, hgc, hF', h100', h100'', hb5, gc_len, gc_all, ff_4]; done)) | (refine WK.condF ?_ ?_; focus (simp only [ev_tmp, ev_const, fset_apply, Nat.reduceEqDiff, ↓reduceIte, decide_true, decide_false, h00, hu0, hc5, hgc, hF', h100', h100'', hb5, gc_len, gc_all, ff_4]; done)))
    refine AtCall.by (wide_gives hw5 (hg0.mono hw kk5) wg ok hb5' hbl hrk hall hu0) ?_
    rintro v n6 H6 k6 ⟨t, rfl, hwt⟩
    have ht : t = true := by
      rcases hor with h | h | ⟨u, e, hu, h⟩
      · omega
      · omega
      · have : u = u0 := by omega
        subst this
        have hin : u ∈ ord := by
          rcases hall u hu0 with h1 | ⟨_, h1, _⟩
          · exact h1
          · omega
        rcases h with h | ⟨D, hD, hDl⟩
        · obtain ⟨q, _, e, _⟩ := hrk.mem_at hin
          omega
        · rw [hwt hin, szOf_eq hD]
          have hM : wideM = 1048576 := rfl
          simp; omega
    subst ht
    simp (config := { maxSteps := 1000000 }) only [SS, forall_const, wx, tguard, acallee, top, tval, fput, tor, vsh, vbin, vun, tload, tload2, tload3, tidx, tidx2, tidx3, tfa, tfa2, tlen2, tpick, textr, tbox, one, tbs, tbs2, afill, Go.AM.splice, Int.reduceEq, Int.reduceNeg, Nat.reduceGT, Nat.reduceLT, Nat.reduceLeDiff, Nat.reduceEqDiff, ↓reduceIte, reduceCtorEq, Int.reduceToNat, Int.reduceLE, Int.reduceLT, Nat.reduceAdd, Nat.reduceMul, ff_4]
    repeat (first | apply WK.seq | apply WK.block | apply WK.skipSeq | apply WK.skipBlock | apply WK.retSeq | apply WK.retBlock | apply WK.exitSeq | apply WK.exitHere | refine WK.exitOn rfl ?_ | ((first | (refine WK.rgn ?_ ?_; kernel_rfl) | refine AtCall.now ?_); simp (config := { maxSteps := 1000000 }) only [SS, forall_const, wx, tguard, acallee, top, tval, fput, tor, vsh, vbin, vun, tload, tload2, tload3, tidx, tidx2, tidx3, tfa, tfa2, tlen2, tpick, textr, tbox, one, tbs, tbs2, afill, Go.AM.splice, Int.reduceEq, Int.reduceNeg, Nat.reduceGT, Nat.reduceLT, Nat.reduceLeDiff, Nat.reduceEqDiff, ↓reduceIte, reduceCtorEq, Int.reduceToNat, Int.reduceLE, Int.reduceLT, Nat.reduceAdd, Nat.reduceMul, ff_4]) | (refine WK.condT ?_ ?_; focus (simp only [ev_tmp, ev_const, fset_apply, Nat.reduceEqDiff, ↓reduceIte, decide_true, decide_false, ff_4]; done)) | (refine WK.condF ?_ ?_; focus (simp only [ev_tmp, ev_const, fset_apply, Nat.reduceEqDiff, ↓reduceIte, decide_true, decide_false, ff_4]; done)))
    (first | refine WK.retNil ⟨Or.inr rfl, _, rfl, ?_, ?_⟩ | refine WK.skipNil ⟨Or.inl rfl, _, rfl, ?_, ?_⟩)
    · exact (kk5.trans k6).keep
    · simp only [packed, fset_apply, Nat.reduceEqDiff, ↓reduceIte, List.getD_cons_zero, List.getD_cons_succ, ff_4]
  · -- one is
    obtain ⟨u, e, _, hPre, hlen⟩ := hS.1 rfl
    have : u = u0 := by omega
    subst this
    obtain ⟨q0, hq0, d1, d2, e1, e2, _, _, e3⟩ := hPre.cons_inv
    have hin : u ∈ ord := by
      rcases hall u hu0 with h1 | ⟨_, _, h1⟩
      · exact h1
      · omega
    obtain ⟨w, hW⟩ := hPre.word
    have hwn := hW.neg
    have hwl : w.length = cl[u] := by
      rw [hW.len hrk (fun s hs h0 => by
        have : s = u := by simpa using hs
        subst this; simpa using hin), sumC, if_neg (by omega), Int.toNat_natCast, hcu]
      simp [sumC]
    have hrep := hW.replay hi [] [] [] 0 (fun s hs => by cases hs)
    simp only [List.nil_append, List.append_nil, replayS] at hrep
    have hyield : yieldS g [(u : Int)] res = (leadV w, 0) := by
      have eL : replayL g [(u : Int)] res = (w, 0, 0) := by unfold replayL; rw [if_neg (by omega)]; exact hrep
      unfold yieldS
      rw [eL, if_pos rfl, if_neg (by rw [(lead_word hwn).1]; decide)]
    have hlv := (lead_word hwn).2
    have hres0 : res.length ≠ 0 := by rw [e3]; simp
    have hrsA := hrs.ra
    simp (config := { maxSteps := 1000000 }) only [SS, forall_const, wx, tguard, acallee, top, tval, fput, tor, vsh, vbin, vun, tload, tload2, tload3, tidx, tidx2, tidx3, tfa, tfa2, tlen2, tpick, textr, tbox, one, tbs, tbs2, afill, Go.AM.splice, Int.reduceEq, Int.reduceNeg, Nat.reduceGT, Nat.reduceLT, Nat.reduceLeDiff, Nat.reduceEqDiff, ↓reduceIte, reduceCtorEq, Int.reduceToNat, Int.reduceLE, Int.reduceLT, Nat.reduceAdd, Nat.reduceMul, ff_4]
    repeat (first | apply WK.seq | apply WK.block | apply WK.skipSeq | apply WK.skipBlock | apply WK.retSeq | apply WK.retBlock | apply WK.exitSeq | apply WK.exitHere | refine WK.exitOn rfl ?_ | ((first | (refine WK.rgn ?_ ?_; kernel_rfl) | refine AtCall.now ?_); simp (config := { maxSteps := 1000000 }) only [SS, forall_const, wx, tguard, acallee, top, tval, fput, tor, vsh, vbin, vun, tload, tload2, tload3, tidx, tidx2, tidx3, tfa, tfa2, tlen2, tpick, textr, tbox, one, tbs, tbs2, afill, Go.AM.splice, Int.reduceEq, Int.reduceNeg, Nat.reduceGT, Nat.reduceLT, Nat.reduceLeDiff, Nat.reduceEqDiff, ↓reduceIte, reduceCtorEq, Int.reduceToNat, Int.reduceLE, Int.reduceLT, Nat.reduceAdd, Nat.reduceMul, hb5, gc_len, gc_all, ebs_28_1, ff_4]) | (refine WK.condT ?_ ?_; focus (simp only [ev_tmp, ev_const, fset_apply, Nat.reduceEqDiff, ↓reduceIte, decide_true, decide_false, hb5, gc_len, gc_all, ebs_28_1, ff_4]; done)) | (refine WK.condF ?_ ?_; focus (simp only [ev_tmp, ev_const, fset_apply, Nat.reduceEqDiff, ↓reduceIte, decide_true, decide_false, hb5, gc_len, gc_all, ebs_28_1, ff_4]; done)))
    have k6 := Kp.new n5 H5 (.cells [.int .i64 (u : Nat)] 3 true)
    have b6 := hset_at H5 n5 (.cells [.int .i64 (u : Nat)] 3 true)
    have kk6 := kk5.trans k6
    have hb6 := (k6.keep n (by omega)).trans hb5
    have hc6 := (k6.keep _ (live_lt hw5 (live_of hc5))).trans hc5
    have hbb6 := (k6.keep _ (live_lt hw5 (live_of hb5'))).trans hb5'
    generalize hset H5 n5 (.cells [.int .i64 (u : Nat)] 3 true) = H6 at *
    have hw6 := kk6.wf hw
    have hp6 : RA (Value.int .i64) H6 (some ⟨n5, 0, none⟩) [(u : Int)] := fun _ => ⟨n5, 0, _, _, _, rfl, b6, fun i y e => by
      cases i with
      | zero => simp at e; subst e; rfl
      | succ i => simp at e⟩
    have hy := yield_gives (form := [(u : Int)]) (rules := res) hw6 (hg0.mono hw kk6) wg ok hp6 (hrsA.mono hw4 (k5.trans k6)) (by simp; omega) (fun s hs => by
      have : s = u := by simpa using hs
      omega)
    rw [hyield] at hy
    refine AtCall.by hy ?_
    rintro v n7 H7 k7 ⟨p7, rfl, hp7⟩
    have kk7 := kk6.trans k7
    have hb7 := (k7.keep n (live_lt hw6 (live_of hb6))).trans hb6
    have hc7 := (k7.keep _ (live_lt hw6 (live_of hc6))).trans hc6
    have hbb7 := (k7.keep _ (live_lt hw6 (live_of hbb6))).trans hbb6
    have hw7 := kk7.wf hw
    have hz : (((0 : Nat) : Int) = 0) = True := by simp
    have hlw : (((leadV w).length : Nat) : Int) = ((cl[u] : Nat) : Int) := by omega
    have hlw' : (leadV w).length = cl[u] := by omega
    have hr0 : ((res.length : Int) = 0) = False := by simp; exact fun e => hres0 (by rw [e]; rfl)
    simp (config := { maxSteps := 1000000 }) only [SS, forall_const, wx, tguard, acallee, top, tval, fput, tor, vsh, vbin, vun, tload, tload2, tload3, tidx, tidx2, tidx3, tfa, tfa2, tlen2, tpick, textr, tbox, one, tbs, tbs2, afill, Go.AM.splice, Int.reduceEq, Int.reduceNeg, Nat.reduceGT, Nat.reduceLT, Nat.reduceLeDiff, Nat.reduceEqDiff, ↓reduceIte, reduceCtorEq, Int.reduceToNat, Int.reduceLE, Int.reduceLT, Nat.reduceAdd, Nat.reduceMul, hz, ff_4]
    repeat (first | apply WK.seq | apply WK.block | apply WK.skipSeq | apply WK.skipBlock | apply WK.retSeq | apply WK.retBlock | apply WK.exitSeq | apply WK.exitHere | refine WK.exitOn rfl ?_ | ((first | (refine WK.rgn ?_ ?_; kernel_rfl) | refine AtCall.now ?_); simp (config := { maxSteps := 1000000 }) only [SS, forall_const, wx, tguard, acallee, top, tval, fput, tor, vsh, vbin, vun, tload, tload2, tload3, tidx, tidx2, tidx3, tfa, tfa2, tlen2, tpick, textr, tbox, one, tbs, tbs2, afill, Go.AM.splice, Int.reduceEq, Int.reduceNeg, Nat.reduceGT, Nat.reduceLT, Nat.reduceLeDiff, Nat.reduceEqDiff, ↓reduceIte, reduceCtorEq, Int.reduceToNat, Int.reduceLE, Int.reduceLT, Nat.reduceAdd, Nat.reduceMul, hz, hlw, hlw', hu0, hc7, hgc, hr0, ff_4]) | (refine WK.condT ?_ ?_; focus (simp only [ev_tmp, ev_const, fset_apply, Nat.reduceEqDiff, ↓reduceIte, decide_true, decide_false, hz, hlw, hlw', hu0, hc7, hgc, hr0, ff_4]; done)) | (refine WK.condF ?_ ?_; focus (simp only [ev_tmp, ev_const, fset_apply, Nat.reduceEqDiff, ↓reduceIte, decide_true, decide_false, hz, hlw, hlw', hu0, hc7, hgc, hr0, ff_4]; done)))
    refine WK.loop (fun k s => ∃ (j : Nat), s.n = n7 ∧ s.H = H7 ∧ s.f 1 = .int .i64 (u : Nat) ∧ s.f 2 = .pointer (some ⟨n, 0, none⟩) ∧ s.f 8 = .slice (some ⟨n4 + 2, 0, none⟩) g.vars.length g.vars.length ∧ s.f 94 = .slice p res.length res.length ∧ s.f 95 = .int .i64 (res.length : Nat) ∧ s.f 96 = .int .i64 (j : Nat) ∧ j ≤ res.length ∧ k = res.length - j) res.length ?_ ?_
    · exact ⟨0, rfl, rfl, rfl, rfl, rfl, rfl, rfl, rfl, Nat.zero_le _, rfl⟩
    rintro kk ⟨f, n8, H8⟩ ⟨j, rfl, rfl, f1, f2, f8, f94, f95, f96, hj, rfl⟩ ih
    simp only at f1 f2 f8 f94 f95 f96 ih hb7 hbb7 kk7 hw7 k7
    by_cases hjl : j < res.length
    · have hjw : IntKind.i64.wrap ((j : Int) + 1) = ((j + 1 : Nat) : Int) := by rw [wrap_in (by omega) (by omega)]; rfl
      obtain ⟨i, hil, hk1, hk2⟩ := hPre.best res[j] (List.getElem_mem hjl)
      obtain ⟨x3, k3', ds, tz3, oz3, e3', hx3, ex⟩ := (hrsA.mono hw4 ((k5.trans k6).trans k7)).at hjl
      subst e3'
      rw [hk1] at ex
      obtain ⟨z, kz, cs, ty, own, pz, e0, hz', d0, d1, d2, _⟩ := (hr.mono hw kk7).at hil
      subst e0
      obtain ⟨l, hl⟩ : ∃ l : Nat, g.rules[i].left = l := ⟨g.rules[i].left.toNat, by have := (ok.rule i hil).left0; omega⟩
      have hlv : l < g.vars.length := by have := (ok.rule i hil).left1; omega
      rw [hl, Int.toNat_natCast] at hk2
      have hlb : l < bl.length := by omega
      have hgb : (bl.map (Value.int .i64))[l]? = some (.int .i64 (i : Int)) := by
        rw [List.getElem?_map, List.getElem?_eq_getElem hlb]
        have : bl[l] = (i : Int) := by rw [← hk2]; simp [bF, hlb]
        rw [this]; rfl
      repeat (first | apply WK.seq | apply WK.block | apply WK.skipSeq | apply WK.skipBlock | apply WK.retSeq | apply WK.retBlock | apply WK.exitSeq | apply WK.exitHere | refine WK.exitOn rfl ?_ | ((first | (refine WK.rgn ?_ ?_; kernel_rfl) | refine AtCall.now ?_); simp (config := { maxSteps := 1000000 }) only [SS, forall_const, wx, tguard, acallee, top, tval, fput, tor, vsh, vbin, vun, tload, tload2, tload3, tidx, tidx2, tidx3, tfa, tfa2, tlen2, tpick, textr, tbox, one, tbs, tbs2, afill, Go.AM.splice, Int.reduceEq, Int.reduceNeg, Nat.reduceGT, Nat.reduceLT, Nat.reduceLeDiff, Nat.reduceEqDiff, ↓reduceIte, reduceCtorEq, Int.reduceToNat, Int.reduceLE, Int.reduceLT, Nat.reduceAdd, Nat.reduceMul, f2, f8, f94, f95, f96, hjl, hx3, ex, hb7, gc_2, hil, hz', d0, hl, hlv, hbb7, hgb, hjw, ff_4]) | (refine WK.condT ?_ ?_; focus (simp only [ev_tmp, ev_const, fset_apply, Nat.reduceEqDiff, ↓reduceIte, decide_true, decide_false, f2, f8, f94, f95, f96, hjl, hx3, ex, hb7, gc_2, hil, hz', d0, hl, hlv, hbb7, hgb, hjw, ff_4]; done)) | (refine WK.condF ?_ ?_; focus (simp only [ev_tmp, ev_const, fset_apply, Nat.reduceEqDiff, ↓reduceIte, decide_true, decide_false, f2, f8, f94, f95, f96, hjl, hx3, ex, hb7, gc_2, hil, hz', d0, hl, hlv, hbb7, hgb, hjw, ff_4]; done)))
      refine ih (res.length - (j + 1)) (by omega) _ ⟨j + 1, rfl, rfl, f1, f2, f8, f94, f95, ?_, hjl, rfl⟩
      simp only [packed, fset_apply, Nat.reduceEqDiff, ↓reduceIte, List.getD_cons_zero, List.getD_cons_succ, f96, hjw, ff_4]
    · repeat (first | apply WK.seq | apply WK.block | apply WK.skipSeq | apply WK.skipBlock | apply WK.retSeq | apply WK.retBlock | apply WK.exitSeq | apply WK.exitHere | refine WK.exitOn rfl ?_ | ((first | (refine WK.rgn ?_ ?_; kernel_rfl) | refine AtCall.now ?_); simp (config := { maxSteps := 1000000 }) only [SS, forall_const, wx, tguard, acallee, top, tval, fput, tor, vsh, vbin, vun, tload, tload2, tload3, tidx, tidx2, tidx3, tfa, tfa2, tlen2, tpick, textr, tbox, one, tbs, tbs2, afill, Go.AM.splice, Int.reduceEq, Int.reduceNeg, Nat.reduceGT, Nat.reduceLT, Nat.reduceLeDiff, Nat.reduceEqDiff, ↓reduceIte, reduceCtorEq, Int.reduceToNat, Int.reduceLE, Int.reduceLT, Nat.reduceAdd, Nat.reduceMul, f2, f95, f96, hjl, hb7, gc_len, gc_all, ff_4]) | (refine WK.condT ?_ ?_; focus (simp only [ev_tmp, ev_const, fset_apply, Nat.reduceEqDiff, ↓reduceIte, decide_true, decide_false, f2, f95, f96, hjl, hb7, gc_len, gc_all, ff_4]; done)) | (refine WK.condF ?_ ?_; focus (simp only [ev_tmp, ev_const, fset_apply, Nat.reduceEqDiff, ↓reduceIte, decide_true, decide_false, f2, f95, f96, hjl, hb7, gc_len, gc_all, ff_4]; done)))
      refine AtCall.by (productiveR_gives hw7 (hg0.mono hw kk7) wg ok) ?_
      rintro v n9 H9 k9 ⟨ws, x9, _, rfl, hwsl, hx9, hws⟩
      have hul : u < ws.length := by omega
      have hgu : (ws.map Value.bool)[u]? = some (.bool true) := by
        have h1 : hold ws (u : Int) := (hws u).2 (hrk.prd u hin)
        have h2 := (holdO hul).1 h1
        rw [List.getElem?_map, List.getElem?_eq_getElem hul, h2]; rfl
      simp (config := { maxSteps := 1000000 }) only [SS, forall_const, wx, tguard, acallee, top, tval, fput, tor, vsh, vbin, vun, tload, tload2, tload3, tidx, tidx2, tidx3, tfa, tfa2, tlen2, tpick, textr, tbox, one, tbs, tbs2, afill, Go.AM.splice, Int.reduceEq, Int.reduceNeg, Nat.reduceGT, Nat.reduceLT, Nat.reduceLeDiff, Nat.reduceEqDiff, ↓reduceIte, reduceCtorEq, Int.reduceToNat, Int.reduceLE, Int.reduceLT, Nat.reduceAdd, Nat.reduceMul, f1, hu0, hx9, hgu, ff_4]
      repeat (first | apply WK.seq | apply WK.block | apply WK.skipSeq | apply WK.skipBlock | apply WK.retSeq | apply WK.retBlock | apply WK.exitSeq | apply WK.exitHere | refine WK.exitOn rfl ?_ | ((first | (refine WK.rgn ?_ ?_; kernel_rfl) | refine AtCall.now ?_); simp (config := { maxSteps := 1000000 }) only [SS, forall_const, wx, tguard, acallee, top, tval, fput, tor, vsh, vbin, vun, tload, tload2, tload3, tidx, tidx2, tidx3, tfa, tfa2, tlen2, tpick, textr, tbox, one, tbs, tbs2, afill, Go.AM.splice, Int.reduceEq, Int.reduceNeg, Nat.reduceGT, Nat.reduceLT, Nat.reduceLeDiff, Nat.reduceEqDiff, ↓reduceIte, reduceCtorEq, Int.reduceToNat, Int.reduceLE, Int.reduceLT, Nat.reduceAdd, Nat.reduceMul, ff_4]) | (refine WK.condT ?_ ?_; focus (simp only [ev_tmp, ev_const, fset_apply, Nat.reduceEqDiff, ↓reduceIte, decide_true, decide_false, ff_4]; done)) | (refine WK.condF ?_ ?_; focus (simp only [ev_tmp, ev_const, fset_apply, Nat.reduceEqDiff, ↓reduceIte, decide_true, decide_false, ff_4]; done)))
      (first | refine WK.retNil ⟨Or.inr rfl, _, rfl, ?_, ?_⟩ | refine WK.skipNil ⟨Or.inl rfl, _, rfl, ?_, ?_⟩)
      · exact (kk7.trans k9).keep
      · simp only [packed, fset_apply, Nat.reduceEqDiff, ↓reduceIte, List.getD_cons_zero, List.getD_cons_succ, ff_4]
end Go.Proofs.YtihjaobjhmmboaaGreatDoor
