/- A part of a proof. Its conditions: none. -/
import Derived.Test.YtfbdababcdfjfaaAmNKpD
import Derived.Test.YtfbdababcdfjfaaAmNAtAlive
import Derived.Test.YtfbdababcdfjfaaAmNWhole12
import Derived.Test.YtfbdababcdfjfaaAmNAtCmp
import Derived.Test.YtfbdababcdfjfaaAmNAtPl
set_option linter.all false
namespace Go.Proofs.Ytfbdababcdfjfaa
open Go.AM
set_option maxRecDepth 100000
theorem startL_mem (g : Gram) (v : Int) : ∀ x ∈ startL g v, x.2 = none ∧ x.1.stack = [] ∧ GC g x.1 := by
  intro x hx
  unfold startL at hx
  split at hx
  case isFalse => simp at hx
  obtain ⟨r, hr, rfl⟩ := List.mem_map.1 hx
  unfold ruleIx at hr
  have hr1 := List.mem_range.1 (List.mem_filter.1 hr).1
  exact ⟨rfl, rfl, ⟨by show (r : Int) < _; omega, fun q _ _ => ⟨Int.le_refl _, by show (0 : Int) ≤ _; omega⟩⟩, fun s hs => by simp at hs⟩
theorem startL_len (g : Gram) (v : Int) : (startL g v).length ≤ g.rules.length := by
  unfold startL
  split
  · rw [List.length_map]
    unfold ruleIx
    exact Nat.le_trans (List.length_filter_le _ _) (by rw [List.length_range]; exact Nat.le_refl _)
  · exact Nat.zero_le _
set_option maxHeartbeats 16000000 in
theorem orders_gives {a b c : CA} {vg : Value} {g : Gram} {v : Int} {n : Nat} {H : Heap} (hw : WF n H) (ha : StOK H a) (hb : StOK H b) (hc : StOK H c) (hg : RG H vg g) (wg : WG g) :
    Gives Try.prog 5 [.agg (ccell a).toArray, .agg (ccell b).toArray, .agg (ccell c).toArray, vg, .int .i64 v] n H fun w _ _ => w = .bool true := by
  obtain ⟨pt, pv, pr, rfl, ht, hv, hr⟩ := hg
  refine Gives.of orders ok5 (Nat.le_of_ble_eq_true rfl) ?_
  have v1 : ∀ s, vcells (.agg (ccell s).toArray) = ccell s := fun _ => rfl
  have v2 : ∀ s, (ccell s).all one = true := fun _ => rfl
  have v4 : ∀ s, (ccell s)[3]? = some (.slice s.2 s.1.stack.length s.1.stack.length) := fun _ => rfl
  have v5 : ∀ s, (ccell s).length = 4 := fun _ => rfl
  have v6 : ∀ s, ((ccell s).drop 0).take 4 = ccell s := fun _ => rfl
  repeat (first | apply WK.seq | apply WK.block | apply WK.skipSeq | apply WK.skipBlock | apply WK.retSeq | apply WK.retBlock | apply WK.exitSeq | apply WK.exitHere | refine WK.exitOn rfl ?_)
  have g1 : (gcells pt pv pr g).all one = true := rfl
  have g2 : ((gcells pt pv pr g).drop 0).take 3 = gcells pt pv pr g := rfl
  have g3 : (gcells pt pv pr g).length = 3 := rfl
  (refine WK.rgn ?_ ?_; kernel_rfl; simp (config := { maxSteps := 1000000 }) only [SS, forall_const, wx, tguard, acallee, top, tval, fput, tor, vsh, vbin, vun, tload, tload2, tload3, tstore, tstore2, tstore3, Go.AM.splice, one, tidx, tidx2, tidx3, tfa, tfa2, tlen2, tlen3, tpick, textr, tbox, talloc, still, still1, flat1, Int.reduceEq, Int.reduceNeg, Nat.reduceGT, Nat.reduceLT, Nat.reduceLeDiff, Nat.reduceEqDiff, ↓reduceIte, reduceCtorEq, Int.reduceToNat, Int.reduceLE, Int.reduceLT, Nat.reduceAdd, Nat.reduceMul, abox, v1, v2, g1, ff_5])
  have kp : Kp n H (n + 1 + 1 + 1 + 1) (hset (hset (hset (hset H n (AObj.cells (ccell a) 47 true)) (n + 1) (AObj.cells (ccell b) 47 true)) (n + 1 + 1) (AObj.cells (ccell c) 47 true)) (n + 1 + 1 + 1) (AObj.cells (gcells pt pv pr g) 25 true)) := (Kp.new n H _).trans ((Kp.new (n + 1) _ _).trans ((Kp.new (n + 1 + 1) _ _).trans (Kp.new (n + 1 + 1 + 1) _ _)))
  have hA : (hset (hset (hset (hset H n (AObj.cells (ccell a) 47 true)) (n + 1) (AObj.cells (ccell b) 47 true)) (n + 1 + 1) (AObj.cells (ccell c) 47 true)) (n + 1 + 1 + 1) (AObj.cells (gcells pt pv pr g) 25 true)) n = AObj.cells (ccell a) 47 true := by
    rw [hset_ne _ _ _ (by omega), hset_ne _ _ _ (by omega), hset_ne _ _ _ (by omega), hset_at]
  have hB : (hset (hset (hset (hset H n (AObj.cells (ccell a) 47 true)) (n + 1) (AObj.cells (ccell b) 47 true)) (n + 1 + 1) (AObj.cells (ccell c) 47 true)) (n + 1 + 1 + 1) (AObj.cells (gcells pt pv pr g) 25 true)) (n + 1) = AObj.cells (ccell b) 47 true := by
    rw [hset_ne _ _ _ (by omega), hset_ne _ _ _ (by omega), hset_at]
  have hC : (hset (hset (hset (hset H n (AObj.cells (ccell a) 47 true)) (n + 1) (AObj.cells (ccell b) 47 true)) (n + 1 + 1) (AObj.cells (ccell c) 47 true)) (n + 1 + 1 + 1) (AObj.cells (gcells pt pv pr g) 25 true)) (n + 1 + 1) = AObj.cells (ccell c) 47 true := by
    rw [hset_ne _ _ _ (by omega), hset_at]
  have hG : (hset (hset (hset (hset H n (AObj.cells (ccell a) 47 true)) (n + 1) (AObj.cells (ccell b) 47 true)) (n + 1 + 1) (AObj.cells (ccell c) 47 true)) (n + 1 + 1 + 1) (AObj.cells (gcells pt pv pr g) 25 true)) (n + 1 + 1 + 1) = AObj.cells (gcells pt pv pr g) 25 true := hset_at _ _ _
  generalize (hset (hset (hset (hset H n (AObj.cells (ccell a) 47 true)) (n + 1) (AObj.cells (ccell b) 47 true)) (n + 1 + 1) (AObj.cells (ccell c) 47 true)) (n + 1 + 1 + 1) (AObj.cells (gcells pt pv pr g) 25 true)) = H1 at *
  have hw1 := kp.wf hw
  have ha1 := ha.mono hw kp
  have hb1 := hb.mono hw kp
  have hc1 := hc.mono hw kp
  have hg1 : RG H1 (.agg (gcells pt pv pr g).toArray) g := ⟨pt, pv, pr, rfl, ht.mono hw kp, hv.mono hw kp, hr.mono hw kp⟩
  repeat (first | apply WK.seq | apply WK.block | apply WK.skipSeq | apply WK.skipBlock | apply WK.retSeq | apply WK.retBlock | apply WK.exitSeq | apply WK.exitHere | refine WK.exitOn rfl ?_ | ((first | (refine WK.rgn ?_ ?_; kernel_rfl) | refine AtCall.now ?_); simp (config := { maxSteps := 1000000 }) only [SS, forall_const, wx, tguard, acallee, top, tval, fput, tor, vsh, vbin, vun, tload, tload2, tload3, tstore, tstore2, tstore3, Go.AM.splice, one, tidx, tidx2, tidx3, tfa, tfa2, tlen2, tlen3, tpick, textr, tbox, talloc, still, still1, flat1, Int.reduceEq, Int.reduceNeg, Nat.reduceGT, Nat.reduceLT, Nat.reduceLeDiff, Nat.reduceEqDiff, ↓reduceIte, reduceCtorEq, Int.reduceToNat, Int.reduceLE, Int.reduceLT, Nat.reduceAdd, Nat.reduceMul, ff_5]) | (refine WK.condT ?_ ?_; focus (simp only [ev_tmp, ev_const, fset_apply, Nat.reduceEqDiff, ↓reduceIte, decide_true, decide_false, ff_5]; done)) | (refine WK.condF ?_ ?_; focus (simp only [ev_tmp, ev_const, fset_apply, Nat.reduceEqDiff, ↓reduceIte, decide_true, decide_false, ff_5]; done)))
  refine AtCall.by (alive_gives _ _) ?_
  rintro _ n1 H2 k1 ⟨rfl, rfl, rfl⟩
  simp (config := { maxSteps := 1000000 }) only [SS, forall_const, wx, tguard, acallee, top, tval, fput, tor, vsh, vbin, vun, tload, tload2, tload3, tstore, tstore2, tstore3, Go.AM.splice, one, tidx, tidx2, tidx3, tfa, tfa2, tlen2, tlen3, tpick, textr, tbox, talloc, still, still1, flat1, Int.reduceEq, Int.reduceNeg, Nat.reduceGT, Nat.reduceLT, Nat.reduceLeDiff, Nat.reduceEqDiff, ↓reduceIte, reduceCtorEq, Int.reduceToNat, Int.reduceLE, Int.reduceLT, Nat.reduceAdd, Nat.reduceMul, ff_5]
  have e10 : ∀ x : CA, ((10 : Int) < (x.1.stack.length : Int)) = (10 < x.1.stack.length) := fun x => propext ⟨fun h => by omega, fun h => by omega⟩
  by_cases la : 10 < a.1.stack.length
  · repeat (first | apply WK.seq | apply WK.block | apply WK.skipSeq | apply WK.skipBlock | apply WK.retSeq | apply WK.retBlock | apply WK.exitSeq | apply WK.exitHere | refine WK.exitOn rfl ?_ | ((first | (refine WK.rgn ?_ ?_; kernel_rfl) | refine AtCall.now ?_); simp (config := { maxSteps := 1000000 }) only [SS, forall_const, wx, tguard, acallee, top, tval, fput, tor, vsh, vbin, vun, tload, tload2, tload3, tstore, tstore2, tstore3, Go.AM.splice, one, tidx, tidx2, tidx3, tfa, tfa2, tlen2, tlen3, tpick, textr, tbox, talloc, still, still1, flat1, Int.reduceEq, Int.reduceNeg, Nat.reduceGT, Nat.reduceLT, Nat.reduceLeDiff, Nat.reduceEqDiff, ↓reduceIte, reduceCtorEq, Int.reduceToNat, Int.reduceLE, Int.reduceLT, Nat.reduceAdd, Nat.reduceMul, hA, v4, e10, la, decide_true, ff_5]) | (refine WK.condT ?_ ?_; focus (simp only [ev_tmp, ev_const, fset_apply, Nat.reduceEqDiff, ↓reduceIte, decide_true, decide_false, hA, v4, e10, la, decide_true, ff_5]; done)) | (refine WK.condF ?_ ?_; focus (simp only [ev_tmp, ev_const, fset_apply, Nat.reduceEqDiff, ↓reduceIte, decide_true, decide_false, hA, v4, e10, la, decide_true, ff_5]; done)))
    (first | refine WK.retNil ⟨Or.inr rfl, _, rfl, ?_, ?_⟩ | refine WK.skipNil ⟨Or.inl rfl, _, rfl, ?_, ?_⟩)
    · exact kp.keep
    · simp only [packed, fset_apply, Nat.reduceEqDiff, ↓reduceIte, List.getD_cons_zero, List.getD_cons_succ, ff_5]
  by_cases lb : 10 < b.1.stack.length
  · repeat (first | apply WK.seq | apply WK.block | apply WK.skipSeq | apply WK.skipBlock | apply WK.retSeq | apply WK.retBlock | apply WK.exitSeq | apply WK.exitHere | refine WK.exitOn rfl ?_ | ((first | (refine WK.rgn ?_ ?_; kernel_rfl) | refine AtCall.now ?_); simp (config := { maxSteps := 1000000 }) only [SS, forall_const, wx, tguard, acallee, top, tval, fput, tor, vsh, vbin, vun, tload, tload2, tload3, tstore, tstore2, tstore3, Go.AM.splice, one, tidx, tidx2, tidx3, tfa, tfa2, tlen2, tlen3, tpick, textr, tbox, talloc, still, still1, flat1, Int.reduceEq, Int.reduceNeg, Nat.reduceGT, Nat.reduceLT, Nat.reduceLeDiff, Nat.reduceEqDiff, ↓reduceIte, reduceCtorEq, Int.reduceToNat, Int.reduceLE, Int.reduceLT, Nat.reduceAdd, Nat.reduceMul, hA, hB, v4, e10, la, lb, decide_true, decide_false, ff_5]) | (refine WK.condT ?_ ?_; focus (simp only [ev_tmp, ev_const, fset_apply, Nat.reduceEqDiff, ↓reduceIte, decide_true, decide_false, hA, hB, v4, e10, la, lb, decide_true, decide_false, ff_5]; done)) | (refine WK.condF ?_ ?_; focus (simp only [ev_tmp, ev_const, fset_apply, Nat.reduceEqDiff, ↓reduceIte, decide_true, decide_false, hA, hB, v4, e10, la, lb, decide_true, decide_false, ff_5]; done)))
    (first | refine WK.retNil ⟨Or.inr rfl, _, rfl, ?_, ?_⟩ | refine WK.skipNil ⟨Or.inl rfl, _, rfl, ?_, ?_⟩)
    · exact kp.keep
    · simp only [packed, fset_apply, Nat.reduceEqDiff, ↓reduceIte, List.getD_cons_zero, List.getD_cons_succ, ff_5]
  by_cases lc : 10 < c.1.stack.length
  · repeat (first | apply WK.seq | apply WK.block | apply WK.skipSeq | apply WK.skipBlock | apply WK.retSeq | apply WK.retBlock | apply WK.exitSeq | apply WK.exitHere | refine WK.exitOn rfl ?_ | ((first | (refine WK.rgn ?_ ?_; kernel_rfl) | refine AtCall.now ?_); simp (config := { maxSteps := 1000000 }) only [SS, forall_const, wx, tguard, acallee, top, tval, fput, tor, vsh, vbin, vun, tload, tload2, tload3, tstore, tstore2, tstore3, Go.AM.splice, one, tidx, tidx2, tidx3, tfa, tfa2, tlen2, tlen3, tpick, textr, tbox, talloc, still, still1, flat1, Int.reduceEq, Int.reduceNeg, Nat.reduceGT, Nat.reduceLT, Nat.reduceLeDiff, Nat.reduceEqDiff, ↓reduceIte, reduceCtorEq, Int.reduceToNat, Int.reduceLE, Int.reduceLT, Nat.reduceAdd, Nat.reduceMul, hA, hB, hC, v4, e10, la, lb, lc, decide_true, decide_false, ff_5]) | (refine WK.condT ?_ ?_; focus (simp only [ev_tmp, ev_const, fset_apply, Nat.reduceEqDiff, ↓reduceIte, decide_true, decide_false, hA, hB, hC, v4, e10, la, lb, lc, decide_true, decide_false, ff_5]; done)) | (refine WK.condF ?_ ?_; focus (simp only [ev_tmp, ev_const, fset_apply, Nat.reduceEqDiff, ↓reduceIte, decide_true, decide_false, hA, hB, hC, v4, e10, la, lb, lc, decide_true, decide_false, ff_5]; done)))
    (first | refine WK.retNil ⟨Or.inr rfl, _, rfl, ?_, ?_⟩ | refine WK.skipNil ⟨Or.inl rfl, _, rfl, ?_, ?_⟩)
    · exact kp.keep
    · simp only [packed, fset_apply, Nat.reduceEqDiff, ↓reduceIte, List.getD_cons_zero, List.getD_cons_succ, ff_5]
  repeat (first | apply WK.seq | apply WK.block | apply WK.skipSeq | apply WK.skipBlock | apply WK.retSeq | apply WK.retBlock | apply WK.exitSeq | apply WK.exitHere | refine WK.exitOn rfl ?_ | ((first | (refine WK.rgn ?_ ?_; kernel_rfl) | refine AtCall.now ?_); simp (config := { maxSteps := 1000000 }) only [SS, forall_const, wx, tguard, acallee, top, tval, fput, tor, vsh, vbin, vun, tload, tload2, tload3, tstore, tstore2, tstore3, Go.AM.splice, one, tidx, tidx2, tidx3, tfa, tfa2, tlen2, tlen3, tpick, textr, tbox, talloc, still, still1, flat1, Int.reduceEq, Int.reduceNeg, Nat.reduceGT, Nat.reduceLT, Nat.reduceLeDiff, Nat.reduceEqDiff, ↓reduceIte, reduceCtorEq, Int.reduceToNat, Int.reduceLE, Int.reduceLT, Nat.reduceAdd, Nat.reduceMul, hA, hB, hC, v4, v5, v6, e10, la, lb, lc, decide_true, decide_false, ff_5]) | (refine WK.condT ?_ ?_; focus (simp only [ev_tmp, ev_const, fset_apply, Nat.reduceEqDiff, ↓reduceIte, decide_true, decide_false, hA, hB, hC, v4, v5, v6, e10, la, lb, lc, decide_true, decide_false, ff_5]; done)) | (refine WK.condF ?_ ?_; focus (simp only [ev_tmp, ev_const, fset_apply, Nat.reduceEqDiff, ↓reduceIte, decide_true, decide_false, hA, hB, hC, v4, v5, v6, e10, la, lb, lc, decide_true, decide_false, ff_5]; done)))
  have sm : ∀ x y : Cfg, IntKind.i64.wrap (0 - cmpC x y) = cmpC y x := fun x y => by
    rw [cmpC_neg y x, wrap_in (by have := cmpC_small y x; omega) (by have := cmpC_small y x; omega)]; omega
  have cz : ∀ x y : Cfg, (cmpC x y = 0) = (x = y) := fun x y => propext cmpC_zero
  have caa : cmpC a.1 a.1 = 0 := cmpC_zero.2 rfl
  have kk1 := Kp.refl (n + 1 + 1 + 1 + 1) H2
  refine AtCall.by (cmpC_gives hw1 ha1 hb1 (by unfold maxL; omega)) ?_
  rintro _ m2 J2 kd2 rfl
  have kk2 := kk1.trans kd2
  have hw2 := kk2.wf hw1
  have hA2 := (kk2.keep n (by omega)).trans hA
  have hB2 := (kk2.keep (n + 1) (by omega)).trans hB
  have hC2 := (kk2.keep (n + 1 + 1) (by omega)).trans hC
  have hG2 := (kk2.keep (n + 1 + 1 + 1) (by omega)).trans hG
  have ha2 := ha1.mono hw1 kk2
  have hb2 := hb1.mono hw1 kk2
  have hc2 := hc1.mono hw1 kk2
  simp (config := { maxSteps := 1000000 }) only [SS, forall_const, wx, tguard, acallee, top, tval, fput, tor, vsh, vbin, vun, tload, tload2, tload3, tstore, tstore2, tstore3, Go.AM.splice, one, tidx, tidx2, tidx3, tfa, tfa2, tlen2, tlen3, tpick, textr, tbox, talloc, still, still1, flat1, Int.reduceEq, Int.reduceNeg, Nat.reduceGT, Nat.reduceLT, Nat.reduceLeDiff, Nat.reduceEqDiff, ↓reduceIte, reduceCtorEq, Int.reduceToNat, Int.reduceLE, Int.reduceLT, Nat.reduceAdd, Nat.reduceMul, hA2, hB2, hC2, hG2, v5, v6, sm, ff_5]
  refine AtCall.by (cmpC_gives hw2 hb2 ha2 (by unfold maxL; omega)) ?_
  rintro _ m3 J3 kd3 rfl
  have kk3 := kk2.trans kd3
  have hw3 := kk3.wf hw1
  have hA3 := (kk3.keep n (by omega)).trans hA
  have hB3 := (kk3.keep (n + 1) (by omega)).trans hB
  have hC3 := (kk3.keep (n + 1 + 1) (by omega)).trans hC
  have hG3 := (kk3.keep (n + 1 + 1 + 1) (by omega)).trans hG
  have ha3 := ha1.mono hw1 kk3
  have hb3 := hb1.mono hw1 kk3
  have hc3 := hc1.mono hw1 kk3
  simp (config := { maxSteps := 1000000 }) only [SS, forall_const, wx, tguard, acallee, top, tval, fput, tor, vsh, vbin, vun, tload, tload2, tload3, tstore, tstore2, tstore3, Go.AM.splice, one, tidx, tidx2, tidx3, tfa, tfa2, tlen2, tlen3, tpick, textr, tbox, talloc, still, still1, flat1, Int.reduceEq, Int.reduceNeg, Nat.reduceGT, Nat.reduceLT, Nat.reduceLeDiff, Nat.reduceEqDiff, ↓reduceIte, reduceCtorEq, Int.reduceToNat, Int.reduceLE, Int.reduceLT, Nat.reduceAdd, Nat.reduceMul, hA3, hB3, hC3, hG3, v5, v6, sm, decide_true, Bool.not_true, ff_5]
  refine AtCall.by (cmpC_gives hw3 ha3 ha3 (by unfold maxL; omega)) ?_
  rintro _ m4 J4 kd4 rfl
  have kk4 := kk3.trans kd4
  have hw4 := kk4.wf hw1
  have hA4 := (kk4.keep n (by omega)).trans hA
  have hB4 := (kk4.keep (n + 1) (by omega)).trans hB
  have hC4 := (kk4.keep (n + 1 + 1) (by omega)).trans hC
  have hG4 := (kk4.keep (n + 1 + 1 + 1) (by omega)).trans hG
  have ha4 := ha1.mono hw1 kk4
  have hb4 := hb1.mono hw1 kk4
  have hc4 := hc1.mono hw1 kk4
  simp (config := { maxSteps := 1000000 }) only [SS, forall_const, wx, tguard, acallee, top, tval, fput, tor, vsh, vbin, vun, tload, tload2, tload3, tstore, tstore2, tstore3, Go.AM.splice, one, tidx, tidx2, tidx3, tfa, tfa2, tlen2, tlen3, tpick, textr, tbox, talloc, still, still1, flat1, Int.reduceEq, Int.reduceNeg, Nat.reduceGT, Nat.reduceLT, Nat.reduceLeDiff, Nat.reduceEqDiff, ↓reduceIte, reduceCtorEq, Int.reduceToNat, Int.reduceLE, Int.reduceLT, Nat.reduceAdd, Nat.reduceMul, hA4, hB4, hC4, hG4, v5, v6, caa, decide_true, Bool.not_true, ff_5]
  refine AtCall.by (cmpC_gives hw4 ha4 hb4 (by unfold maxL; omega)) ?_
  rintro _ m5 J5 kd5 rfl
  have kk5 := kk4.trans kd5
  have hw5 := kk5.wf hw1
  have hA5 := (kk5.keep n (by omega)).trans hA
  have hB5 := (kk5.keep (n + 1) (by omega)).trans hB
  have hC5 := (kk5.keep (n + 1 + 1) (by omega)).trans hC
  have hG5 := (kk5.keep (n + 1 + 1 + 1) (by omega)).trans hG
  have ha5 := ha1.mono hw1 kk5
  have hb5 := hb1.mono hw1 kk5
  have hc5 := hc1.mono hw1 kk5
  simp (config := { maxSteps := 1000000 }) only [SS, forall_const, wx, tguard, acallee, top, tval, fput, tor, vsh, vbin, vun, tload, tload2, tload3, tstore, tstore2, tstore3, Go.AM.splice, one, tidx, tidx2, tidx3, tfa, tfa2, tlen2, tlen3, tpick, textr, tbox, talloc, still, still1, flat1, Int.reduceEq, Int.reduceNeg, Nat.reduceGT, Nat.reduceLT, Nat.reduceLeDiff, Nat.reduceEqDiff, ↓reduceIte, reduceCtorEq, Int.reduceToNat, Int.reduceLE, Int.reduceLT, Nat.reduceAdd, Nat.reduceMul, hA5, hB5, hC5, hG5, v5, v6, cz, ff_5]
  refine AtCall.by (plain_gives hw5 ha5 (by omega)) ?_
  rintro _ m6 J6 kd6 ⟨pa, rfl, hpa⟩
  have kk6 := kk5.trans kd6
  have hw6 := kk6.wf hw1
  have hA6 := (kk6.keep n (by omega)).trans hA
  have hB6 := (kk6.keep (n + 1) (by omega)).trans hB
  have hC6 := (kk6.keep (n + 1 + 1) (by omega)).trans hC
  have hG6 := (kk6.keep (n + 1 + 1 + 1) (by omega)).trans hG
  have ha6 := ha1.mono hw1 kk6
  have hb6 := hb1.mono hw1 kk6
  have hc6 := hc1.mono hw1 kk6
  simp (config := { maxSteps := 1000000 }) only [SS, forall_const, wx, tguard, acallee, top, tval, fput, tor, vsh, vbin, vun, tload, tload2, tload3, tstore, tstore2, tstore3, Go.AM.splice, one, tidx, tidx2, tidx3, tfa, tfa2, tlen2, tlen3, tpick, textr, tbox, talloc, still, still1, flat1, Int.reduceEq, Int.reduceNeg, Nat.reduceGT, Nat.reduceLT, Nat.reduceLeDiff, Nat.reduceEqDiff, ↓reduceIte, reduceCtorEq, Int.reduceToNat, Int.reduceLE, Int.reduceLT, Nat.reduceAdd, Nat.reduceMul, hA6, hB6, hC6, hG6, v5, v6, cz, ff_5]
  refine AtCall.by (plain_gives hw6 hb6 (by omega)) ?_
  rintro _ m7 J7 kd7 ⟨pb, rfl, hpb⟩
  have kk7 := kk6.trans kd7
  have hw7 := kk7.wf hw1
  have hA7 := (kk7.keep n (by omega)).trans hA
  have hB7 := (kk7.keep (n + 1) (by omega)).trans hB
  have hC7 := (kk7.keep (n + 1 + 1) (by omega)).trans hC
  have hG7 := (kk7.keep (n + 1 + 1 + 1) (by omega)).trans hG
  have ha7 := ha1.mono hw1 kk7
  have hb7 := hb1.mono hw1 kk7
  have hc7 := hc1.mono hw1 kk7
  simp (config := { maxSteps := 1000000 }) only [SS, forall_const, wx, tguard, acallee, top, tval, fput, tor, vsh, vbin, vun, tload, tload2, tload3, tstore, tstore2, tstore3, Go.AM.splice, one, tidx, tidx2, tidx3, tfa, tfa2, tlen2, tlen3, tpick, textr, tbox, talloc, still, still1, flat1, Int.reduceEq, Int.reduceNeg, Nat.reduceGT, Nat.reduceLT, Nat.reduceLeDiff, Nat.reduceEqDiff, ↓reduceIte, reduceCtorEq, Int.reduceToNat, Int.reduceLE, Int.reduceLT, Nat.reduceAdd, Nat.reduceMul, hA7, hB7, hC7, hG7, v5, v6, cz, ff_5]
  refine AtCall.by (same14_gives hw7 (hpa.mono hw6 kd7) hpb (by show a.1.stack.length ≤ _; omega) (by show b.1.stack.length ≤ _; omega)) ?_
  rintro _ m8 J8 kd8 rfl
  have kk8 := kk7.trans kd8
  have hw8 := kk8.wf hw1
  have hA8 := (kk8.keep n (by omega)).trans hA
  have hB8 := (kk8.keep (n + 1) (by omega)).trans hB
  have hC8 := (kk8.keep (n + 1 + 1) (by omega)).trans hC
  have hG8 := (kk8.keep (n + 1 + 1 + 1) (by omega)).trans hG
  have ha8 := ha1.mono hw1 kk8
  have hb8 := hb1.mono hw1 kk8
  have hc8 := hc1.mono hw1 kk8
  simp (config := { maxSteps := 1000000 }) only [SS, forall_const, wx, tguard, acallee, top, tval, fput, tor, vsh, vbin, vun, tload, tload2, tload3, tstore, tstore2, tstore3, Go.AM.splice, one, tidx, tidx2, tidx3, tfa, tfa2, tlen2, tlen3, tpick, textr, tbox, talloc, still, still1, flat1, Int.reduceEq, Int.reduceNeg, Nat.reduceGT, Nat.reduceLT, Nat.reduceLeDiff, Nat.reduceEqDiff, ↓reduceIte, reduceCtorEq, Int.reduceToNat, Int.reduceLE, Int.reduceLT, Nat.reduceAdd, Nat.reduceMul, hA8, hB8, hC8, hG8, v5, v6, cz, decide_true, Bool.not_true, beq_self_eq_true, ff_5]
  repeat (first | apply WK.seq | apply WK.block | apply WK.skipSeq | apply WK.skipBlock | apply WK.retSeq | apply WK.retBlock | apply WK.exitSeq | apply WK.exitHere | refine WK.exitOn rfl ?_)
  first | (refine WK.condT ?_ ?_; focus (simp only [ev_tmp, ev_const, fset_apply, Nat.reduceEqDiff, ↓reduceIte, decide_true, decide_false, beq_self_eq_true, Bool.not_true]; done)) | (refine WK.condF ?_ ?_; focus (simp only [ev_tmp, ev_const, fset_apply, Nat.reduceEqDiff, ↓reduceIte, decide_true, decide_false, beq_self_eq_true, Bool.not_true]; done))
  apply WK.skipSeq; apply WK.seq
  refine WK.cut (fun s => Kp (n + 1 + 1 + 1 + 1) H2 s.n s.H ∧ s.f 4 = .int .i64 v ∧ s.f 8 = .pointer (some ⟨n + 1 + 1 + 1, 0, none⟩) ∧ s.f 10 = .bool false) ?_ ?_
  · repeat (first | apply WK.seq | apply WK.block | apply WK.skipSeq | apply WK.skipBlock | apply WK.retSeq | apply WK.retBlock | apply WK.exitSeq | apply WK.exitHere | refine WK.exitOn rfl ?_)
    (refine WK.rgn ?_ ?_; kernel_rfl; simp (config := { maxSteps := 1000000 }) only [SS, forall_const, wx, tguard, acallee, top, tval, fput, tor, vsh, vbin, vun, tload, tload2, tload3, tstore, tstore2, tstore3, Go.AM.splice, one, tidx, tidx2, tidx3, tfa, tfa2, tlen2, tlen3, tpick, textr, tbox, talloc, still, still1, flat1, Int.reduceEq, Int.reduceNeg, Nat.reduceGT, Nat.reduceLT, Nat.reduceLeDiff, Nat.reduceEqDiff, ↓reduceIte, reduceCtorEq, Int.reduceToNat, Int.reduceLE, Int.reduceLT, Nat.reduceAdd, Nat.reduceMul, hA8, hB8, hC8, v5, v6, ff_5])
    refine AtCall.by (cmpC_gives hw8 ha8 hb8 (by unfold maxL; omega)) ?_
    rintro _ m9 J9 kd9 rfl
    have kk9 := kk8.trans kd9
    have hw9 := kk9.wf hw1
    have hA9 := (kk9.keep n (by omega)).trans hA
    have hB9 := (kk9.keep (n + 1) (by omega)).trans hB
    have hC9 := (kk9.keep (n + 1 + 1) (by omega)).trans hC
    have hG9 := (kk9.keep (n + 1 + 1 + 1) (by omega)).trans hG
    have ha9 := ha1.mono hw1 kk9
    have hb9 := hb1.mono hw1 kk9
    have hc9 := hc1.mono hw1 kk9
    simp (config := { maxSteps := 1000000 }) only [SS, forall_const, wx, tguard, acallee, top, tval, fput, tor, vsh, vbin, vun, tload, tload2, tload3, tstore, tstore2, tstore3, Go.AM.splice, one, tidx, tidx2, tidx3, tfa, tfa2, tlen2, tlen3, tpick, textr, tbox, talloc, still, still1, flat1, Int.reduceEq, Int.reduceNeg, Nat.reduceGT, Nat.reduceLT, Nat.reduceLeDiff, Nat.reduceEqDiff, ↓reduceIte, reduceCtorEq, Int.reduceToNat, Int.reduceLE, Int.reduceLT, Nat.reduceAdd, Nat.reduceMul, hA9, hB9, hC9, hG9, v5, v6, ff_5]
    by_cases h1 : cmpC a.1 b.1 ≤ 0
    · simp (config := { maxSteps := 1000000 }) only [SS, forall_const, wx, tguard, acallee, top, tval, fput, tor, vsh, vbin, vun, tload, tload2, tload3, tstore, tstore2, tstore3, Go.AM.splice, one, tidx, tidx2, tidx3, tfa, tfa2, tlen2, tlen3, tpick, textr, tbox, talloc, still, still1, flat1, Int.reduceEq, Int.reduceNeg, Nat.reduceGT, Nat.reduceLT, Nat.reduceLeDiff, Nat.reduceEqDiff, ↓reduceIte, reduceCtorEq, Int.reduceToNat, Int.reduceLE, Int.reduceLT, Nat.reduceAdd, Nat.reduceMul, hA9, hB9, hC9, v5, v6, h1, decide_true, ff_5]
      refine AtCall.by (cmpC_gives hw9 hb9 hc9 (by unfold maxL; omega)) ?_
      rintro _ m10 J10 kd10 rfl
      have kk10 := kk9.trans kd10
      have hw10 := kk10.wf hw1
      have hA10 := (kk10.keep n (by omega)).trans hA
      have hB10 := (kk10.keep (n + 1) (by omega)).trans hB
      have hC10 := (kk10.keep (n + 1 + 1) (by omega)).trans hC
      have hG10 := (kk10.keep (n + 1 + 1 + 1) (by omega)).trans hG
      have ha10 := ha1.mono hw1 kk10
      have hb10 := hb1.mono hw1 kk10
      have hc10 := hc1.mono hw1 kk10
      simp (config := { maxSteps := 1000000 }) only [SS, forall_const, wx, tguard, acallee, top, tval, fput, tor, vsh, vbin, vun, tload, tload2, tload3, tstore, tstore2, tstore3, Go.AM.splice, one, tidx, tidx2, tidx3, tfa, tfa2, tlen2, tlen3, tpick, textr, tbox, talloc, still, still1, flat1, Int.reduceEq, Int.reduceNeg, Nat.reduceGT, Nat.reduceLT, Nat.reduceLeDiff, Nat.reduceEqDiff, ↓reduceIte, reduceCtorEq, Int.reduceToNat, Int.reduceLE, Int.reduceLT, Nat.reduceAdd, Nat.reduceMul, hA10, hB10, hC10, hG10, v5, v6, ff_5]
      by_cases h2 : cmpC b.1 c.1 ≤ 0
      · have h3 := cmpC_trans h1 h2
        have h4 : ¬ 0 < cmpC a.1 c.1 := by omega
        simp (config := { maxSteps := 1000000 }) only [SS, forall_const, wx, tguard, acallee, top, tval, fput, tor, vsh, vbin, vun, tload, tload2, tload3, tstore, tstore2, tstore3, Go.AM.splice, one, tidx, tidx2, tidx3, tfa, tfa2, tlen2, tlen3, tpick, textr, tbox, talloc, still, still1, flat1, Int.reduceEq, Int.reduceNeg, Nat.reduceGT, Nat.reduceLT, Nat.reduceLeDiff, Nat.reduceEqDiff, ↓reduceIte, reduceCtorEq, Int.reduceToNat, Int.reduceLE, Int.reduceLT, Nat.reduceAdd, Nat.reduceMul, hA10, hB10, hC10, v5, v6, h2, decide_true, ff_5]
        refine AtCall.by (cmpC_gives hw10 ha10 hc10 (by unfold maxL; omega)) ?_
        rintro _ m11 J11 kd11 rfl
        have kk11 := kk10.trans kd11
        have hw11 := kk11.wf hw1
        have hA11 := (kk11.keep n (by omega)).trans hA
        have hB11 := (kk11.keep (n + 1) (by omega)).trans hB
        have hC11 := (kk11.keep (n + 1 + 1) (by omega)).trans hC
        have hG11 := (kk11.keep (n + 1 + 1 + 1) (by omega)).trans hG
        have ha11 := ha1.mono hw1 kk11
        have hb11 := hb1.mono hw1 kk11
        have hc11 := hc1.mono hw1 kk11
        simp (config := { maxSteps := 1000000 }) only [SS, forall_const, wx, tguard, acallee, top, tval, fput, tor, vsh, vbin, vun, tload, tload2, tload3, tstore, tstore2, tstore3, Go.AM.splice, one, tidx, tidx2, tidx3, tfa, tfa2, tlen2, tlen3, tpick, textr, tbox, talloc, still, still1, flat1, Int.reduceEq, Int.reduceNeg, Nat.reduceGT, Nat.reduceLT, Nat.reduceLeDiff, Nat.reduceEqDiff, ↓reduceIte, reduceCtorEq, Int.reduceToNat, Int.reduceLE, Int.reduceLT, Nat.reduceAdd, Nat.reduceMul, hA11, hB11, hC11, hG11, v5, v6, h4, decide_false, ff_5]
        repeat (first | apply WK.seq | apply WK.block | apply WK.skipSeq | apply WK.skipBlock | apply WK.retSeq | apply WK.retBlock | apply WK.exitSeq | apply WK.exitHere | refine WK.exitOn rfl ?_)
        first | (refine WK.condT ?_ ?_; focus (simp only [ev_tmp, ev_const, fset_apply, Nat.reduceEqDiff, ↓reduceIte, decide_true, decide_false]; done)) | (refine WK.condF ?_ ?_; focus (simp only [ev_tmp, ev_const, fset_apply, Nat.reduceEqDiff, ↓reduceIte, decide_true, decide_false]; done))
        exact WK.skipNil ⟨rfl, kk11, rfl, rfl, rfl⟩
      · simp (config := { maxSteps := 1000000 }) only [SS, forall_const, wx, tguard, acallee, top, tval, fput, tor, vsh, vbin, vun, tload, tload2, tload3, tstore, tstore2, tstore3, Go.AM.splice, one, tidx, tidx2, tidx3, tfa, tfa2, tlen2, tlen3, tpick, textr, tbox, talloc, still, still1, flat1, Int.reduceEq, Int.reduceNeg, Nat.reduceGT, Nat.reduceLT, Nat.reduceLeDiff, Nat.reduceEqDiff, ↓reduceIte, reduceCtorEq, Int.reduceToNat, Int.reduceLE, Int.reduceLT, Nat.reduceAdd, Nat.reduceMul, h2, decide_false, ff_5]
        repeat (first | apply WK.seq | apply WK.block | apply WK.skipSeq | apply WK.skipBlock | apply WK.retSeq | apply WK.retBlock | apply WK.exitSeq | apply WK.exitHere | refine WK.exitOn rfl ?_)
        first | (refine WK.condT ?_ ?_; focus (simp only [ev_tmp, ev_const, fset_apply, Nat.reduceEqDiff, ↓reduceIte, decide_true, decide_false]; done)) | (refine WK.condF ?_ ?_; focus (simp only [ev_tmp, ev_const, fset_apply, Nat.reduceEqDiff, ↓reduceIte, decide_true, decide_false]; done))
        exact WK.skipNil ⟨rfl, kk10, rfl, rfl, rfl⟩
    · simp (config := { maxSteps := 1000000 }) only [SS, forall_const, wx, tguard, acallee, top, tval, fput, tor, vsh, vbin, vun, tload, tload2, tload3, tstore, tstore2, tstore3, Go.AM.splice, one, tidx, tidx2, tidx3, tfa, tfa2, tlen2, tlen3, tpick, textr, tbox, talloc, still, still1, flat1, Int.reduceEq, Int.reduceNeg, Nat.reduceGT, Nat.reduceLT, Nat.reduceLeDiff, Nat.reduceEqDiff, ↓reduceIte, reduceCtorEq, Int.reduceToNat, Int.reduceLE, Int.reduceLT, Nat.reduceAdd, Nat.reduceMul, h1, decide_false, ff_5]
      repeat (first | apply WK.seq | apply WK.block | apply WK.skipSeq | apply WK.skipBlock | apply WK.retSeq | apply WK.retBlock | apply WK.exitSeq | apply WK.exitHere | refine WK.exitOn rfl ?_)
      first | (refine WK.condT ?_ ?_; focus (simp only [ev_tmp, ev_const, fset_apply, Nat.reduceEqDiff, ↓reduceIte, decide_true, decide_false]; done)) | (refine WK.condF ?_ ?_; focus (simp only [ev_tmp, ev_const, fset_apply, Nat.reduceEqDiff, ↓reduceIte, decide_true, decide_false]; done))
      exact WK.skipNil ⟨rfl, kk9, rfl, rfl, rfl⟩
  rintro ⟨f, n3, H3⟩ ⟨k3, f4, f8, f10⟩
  simp only at k3 f4 f8 f10
  have hw3 := k3.wf hw1
  have hle3 := k3.le
  have hG3 := (k3.keep (n + 1 + 1 + 1) (by omega)).trans hG
  have hg3 := hg1.mono hw1 k3
  repeat (first | apply WK.seq | apply WK.block | apply WK.skipSeq | apply WK.skipBlock | apply WK.retSeq | apply WK.retBlock | apply WK.exitSeq | apply WK.exitHere | refine WK.exitOn rfl ?_ | ((first | (refine WK.rgn ?_ ?_; kernel_rfl) | refine AtCall.now ?_); simp (config := { maxSteps := 1000000 }) only [SS, forall_const, wx, tguard, acallee, top, tval, fput, tor, vsh, vbin, vun, tload, tload2, tload3, tstore, tstore2, tstore3, Go.AM.splice, one, tidx, tidx2, tidx3, tfa, tfa2, tlen2, tlen3, tpick, textr, tbox, talloc, still, still1, flat1, Int.reduceEq, Int.reduceNeg, Nat.reduceGT, Nat.reduceLT, Nat.reduceLeDiff, Nat.reduceEqDiff, ↓reduceIte, reduceCtorEq, Int.reduceToNat, Int.reduceLE, Int.reduceLT, Nat.reduceAdd, Nat.reduceMul, f8, hG3, g2, g3, ff_5]) | (refine WK.condT ?_ ?_; focus (simp only [ev_tmp, ev_const, fset_apply, Nat.reduceEqDiff, ↓reduceIte, decide_true, decide_false, f8, hG3, g2, g3, ff_5]; done)) | (refine WK.condF ?_ ?_; focus (simp only [ev_tmp, ev_const, fset_apply, Nat.reduceEqDiff, ↓reduceIte, decide_true, decide_false, f8, hG3, g2, g3, ff_5]; done)))
  refine AtCall.by (whole12_gives hw3 hg3 wg) ?_
  rintro _ n4 H4 k4 ⟨t, rfl, ht0⟩
  have hw4 := k4.wf hw3
  have hle4 := k4.le
  have k34 := k3.trans k4
  have hG4 := (k34.keep (n + 1 + 1 + 1) (by omega)).trans hG
  have hg4 := hg1.mono hw1 k34
  rcases ht0 with rfl | ⟨rfl, okx, hfew, hall⟩
  · simp (config := { maxSteps := 1000000 }) only [SS, forall_const, wx, tguard, acallee, top, tval, fput, tor, vsh, vbin, vun, tload, tload2, tload3, tstore, tstore2, tstore3, Go.AM.splice, one, tidx, tidx2, tidx3, tfa, tfa2, tlen2, tlen3, tpick, textr, tbox, talloc, still, still1, flat1, Int.reduceEq, Int.reduceNeg, Nat.reduceGT, Nat.reduceLT, Nat.reduceLeDiff, Nat.reduceEqDiff, ↓reduceIte, reduceCtorEq, Int.reduceToNat, Int.reduceLE, Int.reduceLT, Nat.reduceAdd, Nat.reduceMul, decide_true, ff_5]
    repeat (first | apply WK.seq | apply WK.block | apply WK.skipSeq | apply WK.skipBlock | apply WK.retSeq | apply WK.retBlock | apply WK.exitSeq | apply WK.exitHere | refine WK.exitOn rfl ?_ | ((first | (refine WK.rgn ?_ ?_; kernel_rfl) | refine AtCall.now ?_); simp (config := { maxSteps := 1000000 }) only [SS, forall_const, wx, tguard, acallee, top, tval, fput, tor, vsh, vbin, vun, tload, tload2, tload3, tstore, tstore2, tstore3, Go.AM.splice, one, tidx, tidx2, tidx3, tfa, tfa2, tlen2, tlen3, tpick, textr, tbox, talloc, still, still1, flat1, Int.reduceEq, Int.reduceNeg, Nat.reduceGT, Nat.reduceLT, Nat.reduceLeDiff, Nat.reduceEqDiff, ↓reduceIte, reduceCtorEq, Int.reduceToNat, Int.reduceLE, Int.reduceLT, Nat.reduceAdd, Nat.reduceMul, ff_5]) | (refine WK.condT ?_ ?_; focus (simp only [ev_tmp, ev_const, fset_apply, Nat.reduceEqDiff, ↓reduceIte, decide_true, decide_false, ff_5]; done)) | (refine WK.condF ?_ ?_; focus (simp only [ev_tmp, ev_const, fset_apply, Nat.reduceEqDiff, ↓reduceIte, decide_true, decide_false, ff_5]; done)))
    (first | refine WK.retNil ⟨Or.inr rfl, _, rfl, ?_, ?_⟩ | refine WK.skipNil ⟨Or.inl rfl, _, rfl, ?_, ?_⟩)
    · exact (kp.trans k34).keep
    · simp only [packed, fset_apply, Nat.reduceEqDiff, ↓reduceIte, List.getD_cons_zero, List.getD_cons_succ, ff_5]
  have ok := okx.toRightOK
  unfold few at hfew
  simp only [Bool.and_eq_true, decide_eq_true_eq, List.all_eq_true] at hfew
  obtain ⟨⟨⟨fw1, fw2⟩, fw3⟩, fw4⟩ := hfew
  have h10 : ((1 : Int) = 0) = False := eq_false (by decide)
  simp (config := { maxSteps := 1000000 }) only [SS, forall_const, wx, tguard, acallee, top, tval, fput, tor, vsh, vbin, vun, tload, tload2, tload3, tstore, tstore2, tstore3, Go.AM.splice, one, tidx, tidx2, tidx3, tfa, tfa2, tlen2, tlen3, tpick, textr, tbox, talloc, still, still1, flat1, Int.reduceEq, Int.reduceNeg, Nat.reduceGT, Nat.reduceLT, Nat.reduceLeDiff, Nat.reduceEqDiff, ↓reduceIte, reduceCtorEq, Int.reduceToNat, Int.reduceLE, Int.reduceLT, Nat.reduceAdd, Nat.reduceMul, h10, decide_false, ff_5]
  repeat (first | apply WK.seq | apply WK.block | apply WK.skipSeq | apply WK.skipBlock | apply WK.retSeq | apply WK.retBlock | apply WK.exitSeq | apply WK.exitHere | refine WK.exitOn rfl ?_ | ((first | (refine WK.rgn ?_ ?_; kernel_rfl) | refine AtCall.now ?_); simp (config := { maxSteps := 1000000 }) only [SS, forall_const, wx, tguard, acallee, top, tval, fput, tor, vsh, vbin, vun, tload, tload2, tload3, tstore, tstore2, tstore3, Go.AM.splice, one, tidx, tidx2, tidx3, tfa, tfa2, tlen2, tlen3, tpick, textr, tbox, talloc, still, still1, flat1, Int.reduceEq, Int.reduceNeg, Nat.reduceGT, Nat.reduceLT, Nat.reduceLeDiff, Nat.reduceEqDiff, ↓reduceIte, reduceCtorEq, Int.reduceToNat, Int.reduceLE, Int.reduceLT, Nat.reduceAdd, Nat.reduceMul, f8, hG4, g2, g3, ff_5]) | (refine WK.condT ?_ ?_; focus (simp only [ev_tmp, ev_const, fset_apply, Nat.reduceEqDiff, ↓reduceIte, decide_true, decide_false, f8, hG4, g2, g3, ff_5]; done)) | (refine WK.condF ?_ ?_; focus (simp only [ev_tmp, ev_const, fset_apply, Nat.reduceEqDiff, ↓reduceIte, decide_true, decide_false, f8, hG4, g2, g3, ff_5]; done)))
  refine AtCall.by (new_gives hw4 hg4 wg ok) ?_
  rintro _ n5 H5 k5 ⟨nn, qt, qv, qr, cc, cl, rfl, ne, hcl⟩
  have hw5 := k5.wf hw4
  simp (config := { maxSteps := 1000000 }) only [SS, forall_const, wx, tguard, acallee, top, tval, fput, tor, vsh, vbin, vun, tload, tload2, tload3, tstore, tstore2, tstore3, Go.AM.splice, one, tidx, tidx2, tidx3, tfa, tfa2, tlen2, tlen3, tpick, textr, tbox, talloc, still, still1, flat1, Int.reduceEq, Int.reduceNeg, Nat.reduceGT, Nat.reduceLT, Nat.reduceLeDiff, Nat.reduceEqDiff, ↓reduceIte, reduceCtorEq, Int.reduceToNat, Int.reduceLE, Int.reduceLT, Nat.reduceAdd, Nat.reduceMul, ff_5]
  repeat (first | apply WK.seq | apply WK.block | apply WK.skipSeq | apply WK.skipBlock | apply WK.retSeq | apply WK.retBlock | apply WK.exitSeq | apply WK.exitHere | refine WK.exitOn rfl ?_ | ((first | (refine WK.rgn ?_ ?_; kernel_rfl) | refine AtCall.now ?_); simp (config := { maxSteps := 1000000 }) only [SS, forall_const, wx, tguard, acallee, top, tval, fput, tor, vsh, vbin, vun, tload, tload2, tload3, tstore, tstore2, tstore3, Go.AM.splice, one, tidx, tidx2, tidx3, tfa, tfa2, tlen2, tlen3, tpick, textr, tbox, talloc, still, still1, flat1, Int.reduceEq, Int.reduceNeg, Nat.reduceGT, Nat.reduceLT, Nat.reduceLeDiff, Nat.reduceEqDiff, ↓reduceIte, reduceCtorEq, Int.reduceToNat, Int.reduceLE, Int.reduceLT, Nat.reduceAdd, Nat.reduceMul, f4, ff_5]) | (refine WK.condT ?_ ?_; focus (simp only [ev_tmp, ev_const, fset_apply, Nat.reduceEqDiff, ↓reduceIte, decide_true, decide_false, f4, ff_5]; done)) | (refine WK.condF ?_ ?_; focus (simp only [ev_tmp, ev_const, fset_apply, Nat.reduceEqDiff, ↓reduceIte, decide_true, decide_false, f4, ff_5]; done)))
  refine AtCall.by (start_gives hw5 ne ok) ?_
  rintro _ n6 H6 k6 ⟨p6, rfl, hp6⟩
  have hw6 := k6.wf hw5
  have ne6 := ne.mono hw5 k6
  have s1 := startL_mem g v
  have s2 := Nat.le_trans (startL_len g v) fw3
  simp (config := { maxSteps := 1000000 }) only [SS, forall_const, wx, tguard, acallee, top, tval, fput, tor, vsh, vbin, vun, tload, tload2, tload3, tstore, tstore2, tstore3, Go.AM.splice, one, tidx, tidx2, tidx3, tfa, tfa2, tlen2, tlen3, tpick, textr, tbox, talloc, still, still1, flat1, Int.reduceEq, Int.reduceNeg, Nat.reduceGT, Nat.reduceLT, Nat.reduceLeDiff, Nat.reduceEqDiff, ↓reduceIte, reduceCtorEq, Int.reduceToNat, Int.reduceLE, Int.reduceLT, Nat.reduceAdd, Nat.reduceMul, ff_5]
  refine AtCall.by (close_gives (deep := 6) (most := 100) hw6 ne6 ok ⟨by omega, by omega⟩ (fun r hr => by have := fw4 r hr; omega) hp6 (fun x hx => ⟨.inl ⟨(s1 x hx).1, (s1 x hx).2.1⟩, fun z k e => by rw [(s1 x hx).1] at e; cases e⟩) (fun x hx => (s1 x hx).2.2) (by omega) (by omega) (by omega) (fun x hx => by rw [(s1 x hx).2.1]; exact Nat.zero_le _)) ?_
  rintro _ n7 H7 k7 ⟨b, S, hclo, hres⟩
  rcases hres with ⟨rfl, rfl⟩ | ⟨rfl, hS, hSm, hSd, hSg, p7, R, hR, rfl, hp7, hx7⟩
  · simp (config := { maxSteps := 1000000 }) only [SS, forall_const, wx, tguard, acallee, top, tval, fput, tor, vsh, vbin, vun, tload, tload2, tload3, tstore, tstore2, tstore3, Go.AM.splice, one, tidx, tidx2, tidx3, tfa, tfa2, tlen2, tlen3, tpick, textr, tbox, talloc, still, still1, flat1, Int.reduceEq, Int.reduceNeg, Nat.reduceGT, Nat.reduceLT, Nat.reduceLeDiff, Nat.reduceEqDiff, ↓reduceIte, reduceCtorEq, Int.reduceToNat, Int.reduceLE, Int.reduceLT, Nat.reduceAdd, Nat.reduceMul, List.toList_toArray, ff_5]
    repeat (first | apply WK.seq | apply WK.block | apply WK.skipSeq | apply WK.skipBlock | apply WK.retSeq | apply WK.retBlock | apply WK.exitSeq | apply WK.exitHere | refine WK.exitOn rfl ?_ | ((first | (refine WK.rgn ?_ ?_; kernel_rfl) | refine AtCall.now ?_); simp (config := { maxSteps := 1000000 }) only [SS, forall_const, wx, tguard, acallee, top, tval, fput, tor, vsh, vbin, vun, tload, tload2, tload3, tstore, tstore2, tstore3, Go.AM.splice, one, tidx, tidx2, tidx3, tfa, tfa2, tlen2, tlen3, tpick, textr, tbox, talloc, still, still1, flat1, Int.reduceEq, Int.reduceNeg, Nat.reduceGT, Nat.reduceLT, Nat.reduceLeDiff, Nat.reduceEqDiff, ↓reduceIte, reduceCtorEq, Int.reduceToNat, Int.reduceLE, Int.reduceLT, Nat.reduceAdd, Nat.reduceMul, ff_5]) | (refine WK.condT ?_ ?_; focus (simp only [ev_tmp, ev_const, fset_apply, Nat.reduceEqDiff, ↓reduceIte, decide_true, decide_false, ff_5]; done)) | (refine WK.condF ?_ ?_; focus (simp only [ev_tmp, ev_const, fset_apply, Nat.reduceEqDiff, ↓reduceIte, decide_true, decide_false, ff_5]; done)))
    (first | refine WK.retNil ⟨Or.inr rfl, _, rfl, ?_, ?_⟩ | refine WK.skipNil ⟨Or.inl rfl, _, rfl, ?_, ?_⟩)
    · exact (kp.trans (k34.trans (k5.trans (k6.trans k7)))).keep
    · rfl
  · have hw7 := k7.wf hw6
    have ne7 := ne6.mono hw6 k7
    have hRS : ∀ x ∈ R, x ∈ S ∧ idle g x.1 = false := fun x hx => by
      rw [hR, List.mem_filter] at hx
      exact ⟨hx.1, by simpa using hx.2⟩
    have hRl : R.length ≤ 100 := by
      rw [hR]; exact Nat.le_trans (List.length_filter_le _ _) hSm
    have hRs : Srt R := by rw [hR]; exact List.Pairwise.filter _ hS
    simp (config := { maxSteps := 1000000 }) only [SS, forall_const, wx, tguard, acallee, top, tval, fput, tor, vsh, vbin, vun, tload, tload2, tload3, tstore, tstore2, tstore3, Go.AM.splice, one, tidx, tidx2, tidx3, tfa, tfa2, tlen2, tlen3, tpick, textr, tbox, talloc, still, still1, flat1, Int.reduceEq, Int.reduceNeg, Nat.reduceGT, Nat.reduceLT, Nat.reduceLeDiff, Nat.reduceEqDiff, ↓reduceIte, reduceCtorEq, Int.reduceToNat, Int.reduceLE, Int.reduceLT, Nat.reduceAdd, Nat.reduceMul, List.toList_toArray, ff_5]
    repeat (first | apply WK.seq | apply WK.block | apply WK.skipSeq | apply WK.skipBlock | apply WK.retSeq | apply WK.retBlock | apply WK.exitSeq | apply WK.exitHere | refine WK.exitOn rfl ?_ | ((first | (refine WK.rgn ?_ ?_; kernel_rfl) | refine AtCall.now ?_); simp (config := { maxSteps := 1000000 }) only [SS, forall_const, wx, tguard, acallee, top, tval, fput, tor, vsh, vbin, vun, tload, tload2, tload3, tstore, tstore2, tstore3, Go.AM.splice, one, tidx, tidx2, tidx3, tfa, tfa2, tlen2, tlen3, tpick, textr, tbox, talloc, still, still1, flat1, Int.reduceEq, Int.reduceNeg, Nat.reduceGT, Nat.reduceLT, Nat.reduceLeDiff, Nat.reduceEqDiff, ↓reduceIte, reduceCtorEq, Int.reduceToNat, Int.reduceLE, Int.reduceLT, Nat.reduceAdd, Nat.reduceMul, ff_5]) | (refine WK.condT ?_ ?_; focus (simp only [ev_tmp, ev_const, fset_apply, Nat.reduceEqDiff, ↓reduceIte, decide_true, decide_false, ff_5]; done)) | (refine WK.condF ?_ ?_; focus (simp only [ev_tmp, ev_const, fset_apply, Nat.reduceEqDiff, ↓reduceIte, decide_true, decide_false, ff_5]; done)))
    refine AtCall.by (close_gives (deep := 6) (most := 100) hw7 ne7 ok ⟨by omega, by omega⟩ (fun r hr => by have := fw4 r hr; omega) hp7 hx7 (fun x hx => hSg x (hRS x hx).1) (by omega) (by omega) (by omega) (fun x hx => by have := hSd x (hRS x hx).1; omega)) ?_
    rintro _ n8 H8 k8 ⟨b', S', hclo', hres'⟩
    have hag := hclo'.again (fun x hx => (hRS x hx).2) (fun x hx => hSd x (hRS x hx).1) hRl
    rcases hres' with ⟨rfl, rfl⟩ | ⟨rfl, hS', hSm', hSd', hSg', p8, R', hR', rfl, hp8, hx8⟩
    · cases hag.1
    have hm := srt_same hS' hRs hag.2
    have hRR : R' = S' := by
      rw [hR']
      refine List.filter_eq_self.2 fun x hx => ?_
      obtain ⟨y, hy, hxy⟩ := List.mem_map.1 ((hag.2 x.1).1 (List.mem_map.2 ⟨x, hx, rfl⟩))
      rw [← hxy, (hRS y hy).2]; rfl
    rw [← hRR] at hm
    have hlen : R'.length = R.length := by have := congrArg List.length hm; simpa using this
    have hel : ∀ i (h : i < R.length), (R'[i]'(by omega)).1 = R[i].1 := fun i h => by
      have h1 : (R'.map (·.1))[i]'(by rw [List.length_map]; omega) = (R.map (·.1))[i]'(by rw [List.length_map]; omega) := by simp only [hm]
      simpa using h1
    have hw8 := k8.wf hw7
    have hp78 := hp7.mono hw7 k8
    simp (config := { maxSteps := 1000000 }) only [SS, forall_const, wx, tguard, acallee, top, tval, fput, tor, vsh, vbin, vun, tload, tload2, tload3, tstore, tstore2, tstore3, Go.AM.splice, one, tidx, tidx2, tidx3, tfa, tfa2, tlen2, tlen3, tpick, textr, tbox, talloc, still, still1, flat1, Int.reduceEq, Int.reduceNeg, Nat.reduceGT, Nat.reduceLT, Nat.reduceLeDiff, Nat.reduceEqDiff, ↓reduceIte, reduceCtorEq, Int.reduceToNat, Int.reduceLE, Int.reduceLT, Nat.reduceAdd, Nat.reduceMul, List.toList_toArray, ff_5]
    have hlz : ((R.length : Int) = (R.length : Int)) = True := eq_true rfl
    repeat (first | apply WK.seq | apply WK.block | apply WK.skipSeq | apply WK.skipBlock | apply WK.retSeq | apply WK.retBlock | apply WK.exitSeq | apply WK.exitHere | refine WK.exitOn rfl ?_ | ((first | (refine WK.rgn ?_ ?_; kernel_rfl) | refine AtCall.now ?_); simp (config := { maxSteps := 1000000 }) only [SS, forall_const, wx, tguard, acallee, top, tval, fput, tor, vsh, vbin, vun, tload, tload2, tload3, tstore, tstore2, tstore3, Go.AM.splice, one, tidx, tidx2, tidx3, tfa, tfa2, tlen2, tlen3, tpick, textr, tbox, talloc, still, still1, flat1, Int.reduceEq, Int.reduceNeg, Nat.reduceGT, Nat.reduceLT, Nat.reduceLeDiff, Nat.reduceEqDiff, ↓reduceIte, reduceCtorEq, Int.reduceToNat, Int.reduceLE, Int.reduceLT, Nat.reduceAdd, Nat.reduceMul, hlen, decide_true, Bool.not_true, ff_5]) | (refine WK.condT ?_ ?_; focus (simp only [ev_tmp, ev_const, fset_apply, Nat.reduceEqDiff, ↓reduceIte, decide_true, decide_false, hlen, decide_true, Bool.not_true, ff_5]; done)) | (refine WK.condF ?_ ?_; focus (simp only [ev_tmp, ev_const, fset_apply, Nat.reduceEqDiff, ↓reduceIte, decide_true, decide_false, hlen, decide_true, Bool.not_true, ff_5]; done)))
    refine WK.loop (fun kk s => ∃ i : Nat, Kp n8 H8 s.n s.H ∧ s.f 12 = .slice p7 R.length R.length ∧ s.f 111 = .slice p8 R.length R.length ∧ s.f 112 = .int .i64 (R.length : Nat) ∧ s.f 113 = .int .i64 (i : Nat) ∧ i ≤ R.length ∧ kk = R.length - i) R.length ?_ ?_
    · exact ⟨0, Kp.refl _ _, rfl, rfl, rfl, rfl, Nat.zero_le _, rfl⟩
    rintro kk ⟨f, n9, H9⟩ ⟨i, k9, f12, f111, f112, f113, hil, rfl⟩ ih
    simp only at k9 f12 f111 f112 f113 ih
    have hw9 := k9.wf hw8
    have hp79 := hp78.mono hw8 k9
    have hp89 := hp8.mono hw8 k9
    by_cases hlt : i < R.length
    · have hiw : IntKind.i64.wrap ((i : Int) + 1) = ((i + 1 : Nat) : Int) := by rw [wrap_in (by omega) (by omega)]; rfl
      obtain ⟨u, k0, cs, ty, own, q1, q2, q3, q4⟩ := hp79.at ccell_len hlt
      obtain ⟨u', k0', cs', ty', own', q1', q2', q3', q4'⟩ := hp89.at ccell_len (i := i) (by omega)
      have hun := live_lt hw9 (live_of q2)
      have hq2 : ∀ o, hset H9 n9 o u = _ := fun o => (hset_ne _ _ _ (by omega)).trans q2
      have hs4 : ∀ (a b c d : Value) (x : CA), AM.splice [a, b, c, d] 0 (ccell x) = ccell x := fun _ _ _ _ _ => rfl
      have kn := Kp.new n9 H9 (.cells (ccell (R'[i]'(by omega))) 47 true)
      have hnn := hset_at H9 n9 (.cells (ccell (R'[i]'(by omega))) 47 true)
      repeat (first | apply WK.seq | apply WK.block | apply WK.skipSeq | apply WK.skipBlock | apply WK.retSeq | apply WK.retBlock | apply WK.exitSeq | apply WK.exitHere | refine WK.exitOn rfl ?_ | ((first | (refine WK.rgn ?_ ?_; kernel_rfl) | refine AtCall.now ?_); simp (config := { maxSteps := 1000000 }) only [SS, forall_const, wx, tguard, acallee, top, tval, fput, tor, vsh, vbin, vun, tload, tload2, tload3, tstore, tstore2, tstore3, Go.AM.splice, one, tidx, tidx2, tidx3, tfa, tfa2, tlen2, tlen3, tpick, textr, tbox, talloc, still, still1, flat1, Int.reduceEq, Int.reduceNeg, Nat.reduceGT, Nat.reduceLT, Nat.reduceLeDiff, Nat.reduceEqDiff, ↓reduceIte, reduceCtorEq, Int.reduceToNat, Int.reduceLE, Int.reduceLT, Nat.reduceAdd, Nat.reduceMul, f12, f111, f112, f113, hlt, q1, q2, hq2, q3, q4, q1', q2', q3', q4', v1, v2, v5, v6, hs4, hset_at, ff_5]) | (refine WK.condT ?_ ?_; focus (simp only [ev_tmp, ev_const, fset_apply, Nat.reduceEqDiff, ↓reduceIte, decide_true, decide_false, f12, f111, f112, f113, hlt, q1, q2, hq2, q3, q4, q1', q2', q3', q4', v1, v2, v5, v6, hs4, hset_at, ff_5]; done)) | (refine WK.condF ?_ ?_; focus (simp only [ev_tmp, ev_const, fset_apply, Nat.reduceEqDiff, ↓reduceIte, decide_true, decide_false, f12, f111, f112, f113, hlt, q1, q2, hq2, q3, q4, q1', q2', q3', q4', v1, v2, v5, v6, hs4, hset_at, ff_5]; done)))
      generalize hset H9 n9 (.cells (ccell (R'[i]'(by omega))) 47 true) = H10 at *
      have k10 := k9.trans kn
      have hc0 : cmpC (R'[i]'(by omega)).1 R[i].1 = 0 := cmpC_zero.2 (hel i hlt)
      have hd1 := hSd' _ ((List.mem_filter.1 (by rw [← hR']; exact List.getElem_mem (by omega : i < R'.length))).1)
      refine AtCall.by (cmpC_gives (kn.wf hw9) ((hx8 _ (List.getElem_mem _)).1.mono hw8 k10) ((hx7 _ (List.getElem_mem _)).1.mono hw7 (k8.trans k10)) (by unfold maxL; omega)) ?_
      rintro _ n11 H11 k11 rfl
      simp (config := { maxSteps := 1000000 }) only [SS, forall_const, wx, tguard, acallee, top, tval, fput, tor, vsh, vbin, vun, tload, tload2, tload3, tstore, tstore2, tstore3, Go.AM.splice, one, tidx, tidx2, tidx3, tfa, tfa2, tlen2, tlen3, tpick, textr, tbox, talloc, still, still1, flat1, Int.reduceEq, Int.reduceNeg, Nat.reduceGT, Nat.reduceLT, Nat.reduceLeDiff, Nat.reduceEqDiff, ↓reduceIte, reduceCtorEq, Int.reduceToNat, Int.reduceLE, Int.reduceLT, Nat.reduceAdd, Nat.reduceMul, hc0, decide_true, Bool.not_true, ff_5]
      repeat (first | apply WK.seq | apply WK.block | apply WK.skipSeq | apply WK.skipBlock | apply WK.retSeq | apply WK.retBlock | apply WK.exitSeq | apply WK.exitHere | refine WK.exitOn rfl ?_ | ((first | (refine WK.rgn ?_ ?_; kernel_rfl) | refine AtCall.now ?_); simp (config := { maxSteps := 1000000 }) only [SS, forall_const, wx, tguard, acallee, top, tval, fput, tor, vsh, vbin, vun, tload, tload2, tload3, tstore, tstore2, tstore3, Go.AM.splice, one, tidx, tidx2, tidx3, tfa, tfa2, tlen2, tlen3, tpick, textr, tbox, talloc, still, still1, flat1, Int.reduceEq, Int.reduceNeg, Nat.reduceGT, Nat.reduceLT, Nat.reduceLeDiff, Nat.reduceEqDiff, ↓reduceIte, reduceCtorEq, Int.reduceToNat, Int.reduceLE, Int.reduceLT, Nat.reduceAdd, Nat.reduceMul, f12, f111, f112, f113, hlt, hiw, ff_5]) | (refine WK.condT ?_ ?_; focus (simp only [ev_tmp, ev_const, fset_apply, Nat.reduceEqDiff, ↓reduceIte, decide_true, decide_false, f12, f111, f112, f113, hlt, hiw, ff_5]; done)) | (refine WK.condF ?_ ?_; focus (simp only [ev_tmp, ev_const, fset_apply, Nat.reduceEqDiff, ↓reduceIte, decide_true, decide_false, f12, f111, f112, f113, hlt, hiw, ff_5]; done)))
      refine ih (R.length - (i + 1)) (by omega) _ ⟨i + 1, k10.trans k11, f12, f111, f112, rfl, hlt, rfl⟩
    · obtain rfl : i = R.length := by omega
      repeat (first | apply WK.seq | apply WK.block | apply WK.skipSeq | apply WK.skipBlock | apply WK.retSeq | apply WK.retBlock | apply WK.exitSeq | apply WK.exitHere | refine WK.exitOn rfl ?_ | ((first | (refine WK.rgn ?_ ?_; kernel_rfl) | refine AtCall.now ?_); simp (config := { maxSteps := 1000000 }) only [SS, forall_const, wx, tguard, acallee, top, tval, fput, tor, vsh, vbin, vun, tload, tload2, tload3, tstore, tstore2, tstore3, Go.AM.splice, one, tidx, tidx2, tidx3, tfa, tfa2, tlen2, tlen3, tpick, textr, tbox, talloc, still, still1, flat1, Int.reduceEq, Int.reduceNeg, Nat.reduceGT, Nat.reduceLT, Nat.reduceLeDiff, Nat.reduceEqDiff, ↓reduceIte, reduceCtorEq, Int.reduceToNat, Int.reduceLE, Int.reduceLT, Nat.reduceAdd, Nat.reduceMul, f12, f111, f112, f113, Nat.lt_irrefl, Int.lt_irrefl, ff_5]) | (refine WK.condT ?_ ?_; focus (simp only [ev_tmp, ev_const, fset_apply, Nat.reduceEqDiff, ↓reduceIte, decide_true, decide_false, f12, f111, f112, f113, Nat.lt_irrefl, Int.lt_irrefl, ff_5]; done)) | (refine WK.condF ?_ ?_; focus (simp only [ev_tmp, ev_const, fset_apply, Nat.reduceEqDiff, ↓reduceIte, decide_true, decide_false, f12, f111, f112, f113, Nat.lt_irrefl, Int.lt_irrefl, ff_5]; done)))
      (first | refine WK.retNil ⟨Or.inr rfl, _, rfl, ?_, ?_⟩ | refine WK.skipNil ⟨Or.inl rfl, _, rfl, ?_, ?_⟩)
      · exact (kp.trans (k34.trans (k5.trans (k6.trans (k7.trans (k8.trans k9)))))).keep
      · simp only [packed, fset_apply, Nat.reduceEqDiff, ↓reduceIte, List.getD_cons_zero, List.getD_cons_succ, ff_5]
end Go.Proofs.Ytfbdababcdfjfaa
