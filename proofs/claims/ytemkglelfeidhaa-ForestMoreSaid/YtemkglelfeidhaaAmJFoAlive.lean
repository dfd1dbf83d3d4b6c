/- A part of a proof. Its conditions: none. -/
import Derived.Test.YtemkglelfeidhaaAmJFoSums
set_option linter.all false
namespace Go.Proofs.Ytemkglelfeidhaa
open Go.AM Go.AM.Fo Go.RowKit
set_option maxRecDepth 100000
theorem rs_new {H : Heap} {z : Nat} {l : List Int} (h : H z = .cells (l.map (Value.int .i64)) 3 true) : RS (Value.int .i64) H (some ⟨z, 0, none⟩) l :=
  .inr ⟨z, 0, _, _, _, rfl, h, by simp, fun i y e => by rw [Nat.zero_add, List.getElem?_map, e]; rfl⟩
theorem FI.rs {H : Heap} {N : Nat} {v : Value} {l : List Int} (h : FI H N v l) : ∃ z, v = .slice (some ⟨z, 0, none⟩) l.length l.length ∧ RS (Value.int .i64) H (some ⟨z, 0, none⟩) l := by
  obtain ⟨z, h1, _, h3⟩ := h
  exact ⟨z, h1, rs_new h3⟩
set_option maxHeartbeats 16000000 in
theorem alive_gives {n : Nat} {H : Heap} (hw : WF n H) : GivesD Try.prog 7 [] n H fun v _ _ => v = .bool true := by
  refine GivesD.of orders ok7 (Nat.le_of_ble_eq_true rfl) ?_
  have r5 : ∀ z, rep 5 z = z ++ (z ++ (z ++ (z ++ (z ++ [])))) := fun _ => rfl
  have r3 : ∀ z, rep 3 z = z ++ (z ++ (z ++ [])) := fun _ => rfl
  have ss := sums_s
  repeat (first | apply WKD.seq | apply WKD.block | apply WKD.skipSeq | apply WKD.skipBlock | apply WKD.retSeq | apply WKD.retBlock | apply WKD.exitSeq | apply WKD.exitHere | refine WKD.exitOn rfl ?_ | ((first | (refine WKD.rgn ?_ ?_; kernel_rfl) | refine AtCallY.now ?_); simp (config := { maxSteps := 1000000 }) only [SS, forall_const, yx_nil, yx_true, yx_false, y1_false, y1_true, y2_none, y2_some, y3, tguard, acallee, top, tval, fput, tor, vsh, vbin, vun, tlen2, tlen3, tpick, textr, tbs, tbs2, afill, Go.AM.splice, one, Int.reduceEq, Int.reduceNeg, Nat.reduceGT, Nat.reduceLT, Nat.reduceLeDiff, Nat.reduceEqDiff, ↓reduceIte, reduceCtorEq, Int.reduceToNat, Int.reduceLE, Int.reduceLT, Nat.reduceAdd, Nat.reduceMul, ff_7]) | (refine WKD.condT ?_ ?_; focus (simp only [ev_tmp, ev_const, fset_apply, Nat.reduceEqDiff, ↓reduceIte, decide_true, decide_false, ff_7]; done)) | (refine WKD.condF ?_ ?_; focus (simp only [ev_tmp, ev_const, fset_apply, Nat.reduceEqDiff, ↓reduceIte, decide_true, decide_false, ff_7]; done)))
  refine AtCallY.by sums_gives ?_
  rintro v n1 H1 k1 hg1
  have hw1 := k1.wf hw
  obtain ⟨pt, pv, pr, rfl, _, _, hr1⟩ := hg1
  simp (config := { maxSteps := 1000000 }) only [SS, forall_const, yx_nil, yx_true, yx_false, y1_false, y1_true, y2_none, y2_some, y3, tguard, acallee, top, tval, fput, tor, vsh, vbin, vun, tlen2, tlen3, tpick, textr, tbs, tbs2, afill, Go.AM.splice, one, Int.reduceEq, Int.reduceNeg, Nat.reduceGT, Nat.reduceLT, Nat.reduceLeDiff, Nat.reduceEqDiff, ↓reduceIte, reduceCtorEq, Int.reduceToNat, Int.reduceLE, Int.reduceLT, Nat.reduceAdd, Nat.reduceMul, r5, r3, hset_at, List.length_cons, List.length_nil, List.set_cons_zero, List.set_cons_succ, List.cons_append, List.nil_append, List.append_nil, ff_7]
  have k2 := Kp.new n1 H1 (.cells [.int .i64 1, .int .i64 0, .int .i64 1, .int .i64 0, .int .i64 1] 3 true)
  have hq2 : RS (Value.int .i64) (hset H1 n1 (.cells [.int .i64 1, .int .i64 0, .int .i64 1, .int .i64 0, .int .i64 1] 3 true)) (some ⟨n1, 0, none⟩) [1, 0, 1, 0, 1] := rs_new (hset_at _ _ _)
  generalize hset H1 n1 (.cells [.int .i64 1, .int .i64 0, .int .i64 1, .int .i64 0, .int .i64 1] 3 true) = H2 at *
  have hw2 := k2.wf hw1
  have hnew := new_gives (w := [1, 0, 1, 0, 1]) (pt := pt) (pv := pv) (g := sumsG) hw2 (hr1.mono hw1 k2) hq2 sums_sgm (by unfold maxL; simp)
  refine AtCallY.byD hnew ?_
  rintro v n3 H3 k3 hv
  have hw3 := k3.wf hw2
  rcases hv with ⟨hl, _⟩ | ⟨hl, fo, m, pw, ks, rd, rfl, md⟩
  · simp at hl
  simp (config := { maxSteps := 1000000 }) only [SS, forall_const, yx_nil, yx_true, yx_false, y1_false, y1_true, y2_none, y2_some, y3, tguard, acallee, top, tval, fput, tor, vsh, vbin, vun, tlen2, tlen3, tpick, textr, tbs, tbs2, afill, Go.AM.splice, one, Int.reduceEq, Int.reduceNeg, Nat.reduceGT, Nat.reduceLT, Nat.reduceLeDiff, Nat.reduceEqDiff, ↓reduceIte, reduceCtorEq, Int.reduceToNat, Int.reduceLE, Int.reduceLT, Nat.reduceAdd, Nat.reduceMul, ff_7]
  repeat (first | apply WKD.seq | apply WKD.block | apply WKD.skipSeq | apply WKD.skipBlock | apply WKD.retSeq | apply WKD.retBlock | apply WKD.exitSeq | apply WKD.exitHere | refine WKD.exitOn rfl ?_ | ((first | (refine WKD.rgn ?_ ?_; kernel_rfl) | refine AtCallY.now ?_); simp (config := { maxSteps := 1000000 }) only [SS, forall_const, yx_nil, yx_true, yx_false, y1_false, y1_true, y2_none, y2_some, y3, tguard, acallee, top, tval, fput, tor, vsh, vbin, vun, tlen2, tlen3, tpick, textr, tbs, tbs2, afill, Go.AM.splice, one, Int.reduceEq, Int.reduceNeg, Nat.reduceGT, Nat.reduceLT, Nat.reduceLeDiff, Nat.reduceEqDiff, ↓reduceIte, reduceCtorEq, Int.reduceToNat, Int.reduceLE, Int.reduceLT, Nat.reduceAdd, Nat.reduceMul, ff_7]) | (refine WKD.condT ?_ ?_; focus (simp only [ev_tmp, ev_const, fset_apply, Nat.reduceEqDiff, ↓reduceIte, decide_true, decide_false, ff_7]; done)) | (refine WKD.condF ?_ ?_; focus (simp only [ev_tmp, ev_const, fset_apply, Nat.reduceEqDiff, ↓reduceIte, decide_true, decide_false, ff_7]; done)))
  simp (config := { maxSteps := 1000000 }) only [SS, forall_const, yx_nil, yx_true, yx_false, y1_false, y1_true, y2_none, y2_some, y3, tguard, acallee, top, tval, fput, tor, vsh, vbin, vun, tlen2, tlen3, tpick, textr, tbs, tbs2, afill, Go.AM.splice, one, Int.reduceEq, Int.reduceNeg, Nat.reduceGT, Nat.reduceLT, Nat.reduceLeDiff, Nat.reduceEqDiff, ↓reduceIte, reduceCtorEq, Int.reduceToNat, Int.reduceLE, Int.reduceLT, Nat.reduceAdd, Nat.reduceMul, ff_7]
  repeat (first | apply WKD.seq | apply WKD.block | apply WKD.skipSeq | apply WKD.skipBlock | apply WKD.retSeq | apply WKD.retBlock | apply WKD.exitSeq | apply WKD.exitHere | refine WKD.exitOn rfl ?_ | ((first | (refine WKD.rgn ?_ ?_; kernel_rfl) | refine AtCallY.now ?_); simp (config := { maxSteps := 1000000 }) only [SS, forall_const, yx_nil, yx_true, yx_false, y1_false, y1_true, y2_none, y2_some, y3, tguard, acallee, top, tval, fput, tor, vsh, vbin, vun, tlen2, tlen3, tpick, textr, tbs, tbs2, afill, Go.AM.splice, one, Int.reduceEq, Int.reduceNeg, Nat.reduceGT, Nat.reduceLT, Nat.reduceLeDiff, Nat.reduceEqDiff, ↓reduceIte, reduceCtorEq, Int.reduceToNat, Int.reduceLE, Int.reduceLT, Nat.reduceAdd, Nat.reduceMul, ff_7]) | (refine WKD.condT ?_ ?_; focus (simp only [ev_tmp, ev_const, fset_apply, Nat.reduceEqDiff, ↓reduceIte, decide_true, decide_false, ff_7]; done)) | (refine WKD.condF ?_ ?_; focus (simp only [ev_tmp, ev_const, fset_apply, Nat.reduceEqDiff, ↓reduceIte, decide_true, decide_false, ff_7]; done)))
  refine AtCallY.by (one_gives hw3 md hl sums_sgm (Kp.refl _ _)) ?_
  rintro v n4 H4 k4 hv
  have hw4 := k4.wf hw3
  obtain ⟨d1, d2⟩ := ss.two
  rcases hv with ⟨h0, _⟩ | ⟨h0, u, rfl, hu⟩
  · exact absurd d1 (tn_none md.ok sums_sgm.ing h0 _)
  have hpl := tn_pl md.ok sums_sgm.ing h0
  generalize pl sumsG [1, 0, 1, 0, 1] rd (root [1, 0, 1, 0, 1]) = od at *
  simp (config := { maxSteps := 1000000 }) only [SS, forall_const, yx_nil, yx_true, yx_false, y1_false, y1_true, y2_none, y2_some, y3, tguard, acallee, top, tval, fput, tor, vsh, vbin, vun, tlen2, tlen3, tpick, textr, tbs, tbs2, afill, Go.AM.splice, one, Int.reduceEq, Int.reduceNeg, Nat.reduceGT, Nat.reduceLT, Nat.reduceLeDiff, Nat.reduceEqDiff, ↓reduceIte, reduceCtorEq, Int.reduceToNat, Int.reduceLE, Int.reduceLT, Nat.reduceAdd, Nat.reduceMul, ff_7]
  repeat (first | apply WKD.seq | apply WKD.block | apply WKD.skipSeq | apply WKD.skipBlock | apply WKD.retSeq | apply WKD.retBlock | apply WKD.exitSeq | apply WKD.exitHere | refine WKD.exitOn rfl ?_ | ((first | (refine WKD.rgn ?_ ?_; kernel_rfl) | refine AtCallY.now ?_); simp (config := { maxSteps := 1000000 }) only [SS, forall_const, yx_nil, yx_true, yx_false, y1_false, y1_true, y2_none, y2_some, y3, tguard, acallee, top, tval, fput, tor, vsh, vbin, vun, tlen2, tlen3, tpick, textr, tbs, tbs2, afill, Go.AM.splice, one, Int.reduceEq, Int.reduceNeg, Nat.reduceGT, Nat.reduceLT, Nat.reduceLeDiff, Nat.reduceEqDiff, ↓reduceIte, reduceCtorEq, Int.reduceToNat, Int.reduceLE, Int.reduceLT, Nat.reduceAdd, Nat.reduceMul, ff_7]) | (refine WKD.condT ?_ ?_; focus (simp only [ev_tmp, ev_const, fset_apply, Nat.reduceEqDiff, ↓reduceIte, decide_true, decide_false, ff_7]; done)) | (refine WKD.condF ?_ ?_; focus (simp only [ev_tmp, ev_const, fset_apply, Nat.reduceEqDiff, ↓reduceIte, decide_true, decide_false, ff_7]; done)))
  refine AtCallY.by (two_gives hw3 md hl sums_sgm k4) ?_
  rintro v n5 H5 k5 hv
  have hw5 := k5.wf hw4
  rcases hv with ⟨a, b, oa, ob, rfl, hne, ha, hb, hfa, hfb⟩ | ⟨_, huq⟩
  case inr => have := huq _ _ d1 d2; cases this
  have la : oa.length = 5 := by have := (ss.size ha).1; simpa [negs] using this
  have lb : ob.length = 5 := by have := (ss.size hb).1; simpa [negs] using this
  have ld : od.length = 5 := by have := (ss.size hpl).1; simpa [negs] using this
  simp (config := { maxSteps := 1000000 }) only [SS, forall_const, yx_nil, yx_true, yx_false, y1_false, y1_true, y2_none, y2_some, y3, tguard, acallee, top, tval, fput, tor, vsh, vbin, vun, tlen2, tlen3, tpick, textr, tbs, tbs2, afill, Go.AM.splice, one, Int.reduceEq, Int.reduceNeg, Nat.reduceGT, Nat.reduceLT, Nat.reduceLeDiff, Nat.reduceEqDiff, ↓reduceIte, reduceCtorEq, Int.reduceToNat, Int.reduceLE, Int.reduceLT, Nat.reduceAdd, Nat.reduceMul, ff_7]
  repeat (first | apply WKD.seq | apply WKD.block | apply WKD.skipSeq | apply WKD.skipBlock | apply WKD.retSeq | apply WKD.retBlock | apply WKD.exitSeq | apply WKD.exitHere | refine WKD.exitOn rfl ?_ | ((first | (refine WKD.rgn ?_ ?_; kernel_rfl) | refine AtCallY.now ?_); simp (config := { maxSteps := 1000000 }) only [SS, forall_const, yx_nil, yx_true, yx_false, y1_false, y1_true, y2_none, y2_some, y3, tguard, acallee, top, tval, fput, tor, vsh, vbin, vun, tlen2, tlen3, tpick, textr, tbs, tbs2, afill, Go.AM.splice, one, Int.reduceEq, Int.reduceNeg, Nat.reduceGT, Nat.reduceLT, Nat.reduceLeDiff, Nat.reduceEqDiff, ↓reduceIte, reduceCtorEq, Int.reduceToNat, Int.reduceLE, Int.reduceLT, Nat.reduceAdd, Nat.reduceMul, ff_7]) | (refine WKD.condT ?_ ?_; focus (simp only [ev_tmp, ev_const, fset_apply, Nat.reduceEqDiff, ↓reduceIte, decide_true, decide_false, ff_7]; done)) | (refine WKD.condF ?_ ?_; focus (simp only [ev_tmp, ev_const, fset_apply, Nat.reduceEqDiff, ↓reduceIte, decide_true, decide_false, ff_7]; done)))
  refine AtCallY.by sums_gives ?_
  rintro v n6 H6 k6 hg6
  have hw6 := k6.wf hw5
  simp (config := { maxSteps := 1000000 }) only [SS, forall_const, yx_nil, yx_true, yx_false, y1_false, y1_true, y2_none, y2_some, y3, tguard, acallee, top, tval, fput, tor, vsh, vbin, vun, tlen2, tlen3, tpick, textr, tbs, tbs2, afill, Go.AM.splice, one, Int.reduceEq, Int.reduceNeg, Nat.reduceGT, Nat.reduceLT, Nat.reduceLeDiff, Nat.reduceEqDiff, ↓reduceIte, reduceCtorEq, Int.reduceToNat, Int.reduceLE, Int.reduceLT, Nat.reduceAdd, Nat.reduceMul, r5, r3, hset_at, List.length_cons, List.length_nil, List.set_cons_zero, List.set_cons_succ, List.cons_append, List.nil_append, List.append_nil, ff_7]
  have k7 := Kp.new n6 H6 (.cells [.int .i64 0] 3 true)
  have hq7 : RS (Value.int .i64) (hset H6 n6 (.cells [.int .i64 0] 3 true)) (some ⟨n6, 0, none⟩) [0] := rs_new (hset_at _ _ _)
  generalize hset H6 n6 (.cells [.int .i64 0] 3 true) = H7 at *
  have hw7 := k7.wf hw6
  obtain ⟨zu, rfl, hru⟩ := (hu.mono hw4 (k5.trans (k6.trans k7))).rs
  obtain ⟨za, rfl, hra⟩ := (hfa.mono hw5 (k6.trans k7)).rs
  obtain ⟨zb, rfl, hrb⟩ := (hfb.mono hw5 (k6.trans k7)).rs
  have hy : yieldS sumsG [0] od = ([1, 0, 1, 0, 1], 0) := dv_yield sums_sgm.ing hpl (by omega)
  have hyield := yield_gives (form := [0]) (rules := od) hw7 (hg6.mono hw6 k7) sums_wg sums_ok hq7.ra hru.ra (by rw [ld]; decide) (by simp)
  rw [hy] at hyield
  refine AtCallY.by hyield ?_
  rintro v n8 H8 k8 ⟨p', rfl, _⟩
  have hw8 := k8.wf hw7
  have la' : ((oa.length : Int) = 5) = True := by simp only [eq_iff_iff, iff_true]; omega
  have lb' : ((ob.length : Int) = 5) = True := by simp only [eq_iff_iff, iff_true]; omega
  have lw' : (((5 : Nat) : Int) = 5) = True := by simp
  have c00 : (((0 : Nat) : Int) = 0) = True := by simp
  simp (config := { maxSteps := 1000000 }) only [SS, forall_const, yx_nil, yx_true, yx_false, y1_false, y1_true, y2_none, y2_some, y3, tguard, acallee, top, tval, fput, tor, vsh, vbin, vun, tlen2, tlen3, tpick, textr, tbs, tbs2, afill, Go.AM.splice, one, Int.reduceEq, Int.reduceNeg, Nat.reduceGT, Nat.reduceLT, Nat.reduceLeDiff, Nat.reduceEqDiff, ↓reduceIte, reduceCtorEq, Int.reduceToNat, Int.reduceLE, Int.reduceLT, Nat.reduceAdd, Nat.reduceMul, ff_7]
  repeat (first | apply WKD.seq | apply WKD.block | apply WKD.skipSeq | apply WKD.skipBlock | apply WKD.retSeq | apply WKD.retBlock | apply WKD.exitSeq | apply WKD.exitHere | refine WKD.exitOn rfl ?_)
  (refine WKD.rgn ?_ ?_; kernel_rfl; simp (config := { maxSteps := 1000000 }) only [SS, forall_const, yx_nil, yx_true, yx_false, y1_false, y1_true, y2_none, y2_some, y3, tguard, acallee, top, tval, fput, tor, vsh, vbin, vun, tlen2, tlen3, tpick, textr, tbs, tbs2, afill, Go.AM.splice, one, Int.reduceEq, Int.reduceNeg, Nat.reduceGT, Nat.reduceLT, Nat.reduceLeDiff, Nat.reduceEqDiff, ↓reduceIte, reduceCtorEq, Int.reduceToNat, Int.reduceLE, Int.reduceLT, Nat.reduceAdd, Nat.reduceMul, la', lb', lw', c00, decide_true, ff_7])
  refine AtCallY.by (same_gives (hra.mono hw7 k8).ra (hrb.mono hw7 k8).ra (by unfold maxL; omega) (by unfold maxL; omega)) ?_
  rintro v n9 H9 _ ⟨rfl, rfl, rfl⟩
  have hsame : same oa ob = false := by rw [Bool.eq_false_iff]; exact fun e => hne (same_iff3.1 e)
  simp (config := { maxSteps := 1000000 }) only [SS, forall_const, yx_nil, yx_true, yx_false, y1_false, y1_true, y2_none, y2_some, y3, tguard, acallee, top, tval, fput, tor, vsh, vbin, vun, tlen2, tlen3, tpick, textr, tbs, tbs2, afill, Go.AM.splice, one, Int.reduceEq, Int.reduceNeg, Nat.reduceGT, Nat.reduceLT, Nat.reduceLeDiff, Nat.reduceEqDiff, ↓reduceIte, reduceCtorEq, Int.reduceToNat, Int.reduceLE, Int.reduceLT, Nat.reduceAdd, Nat.reduceMul, hsame, Bool.not_false, ff_7]
  refine AtCallY.by sums_gives ?_
  rintro v n10 H10 k10 hg10
  have hw10 := k10.wf hw8
  obtain ⟨pt, pv, pr, rfl, _, _, hr10⟩ := hg10
  simp (config := { maxSteps := 1000000 }) only [SS, forall_const, yx_nil, yx_true, yx_false, y1_false, y1_true, y2_none, y2_some, y3, tguard, acallee, top, tval, fput, tor, vsh, vbin, vun, tlen2, tlen3, tpick, textr, tbs, tbs2, afill, Go.AM.splice, one, Int.reduceEq, Int.reduceNeg, Nat.reduceGT, Nat.reduceLT, Nat.reduceLeDiff, Nat.reduceEqDiff, ↓reduceIte, reduceCtorEq, Int.reduceToNat, Int.reduceLE, Int.reduceLT, Nat.reduceAdd, Nat.reduceMul, r5, r3, hset_at, List.length_cons, List.length_nil, List.set_cons_zero, List.set_cons_succ, List.cons_append, List.nil_append, List.append_nil, ff_7]
  have k11 := Kp.new n10 H10 (.cells [.int .i64 1, .int .i64 0, .int .i64 1] 3 true)
  have hq11 : RS (Value.int .i64) (hset H10 n10 (.cells [.int .i64 1, .int .i64 0, .int .i64 1] 3 true)) (some ⟨n10, 0, none⟩) [1, 0, 1] := rs_new (hset_at _ _ _)
  generalize hset H10 n10 (.cells [.int .i64 1, .int .i64 0, .int .i64 1] 3 true) = H11 at *
  have hw11 := k11.wf hw10
  have ht3 := trees_gives (w := [1, 0, 1]) (pt := pt) (pv := pv) (g := sumsG) hw11 (hr10.mono hw10 k11) hq11 sums_sgm (by unfold maxL; simp)
  refine AtCallY.byD ht3 ?_
  rintro v n12 H12 k12 ⟨t, rfl, _, ht⟩
  have hw12 := k12.wf hw11
  obtain rfl := ss.n3 sums_sgm.ing (ht (by simp))
  have c11 : (((1 : Nat) : Int) = 1) = True := by simp
  simp (config := { maxSteps := 1000000 }) only [SS, forall_const, yx_nil, yx_true, yx_false, y1_false, y1_true, y2_none, y2_some, y3, tguard, acallee, top, tval, fput, tor, vsh, vbin, vun, tlen2, tlen3, tpick, textr, tbs, tbs2, afill, Go.AM.splice, one, Int.reduceEq, Int.reduceNeg, Nat.reduceGT, Nat.reduceLT, Nat.reduceLeDiff, Nat.reduceEqDiff, ↓reduceIte, reduceCtorEq, Int.reduceToNat, Int.reduceLE, Int.reduceLT, Nat.reduceAdd, Nat.reduceMul, c11, decide_true, ff_7]
  refine AtCallY.by sums_gives ?_
  rintro v n13 H13 k13 hg13
  have hw13 := k13.wf hw12
  obtain ⟨pt2, pv2, pr2, rfl, _, _, hr13⟩ := hg13
  simp (config := { maxSteps := 1000000 }) only [SS, forall_const, yx_nil, yx_true, yx_false, y1_false, y1_true, y2_none, y2_some, y3, tguard, acallee, top, tval, fput, tor, vsh, vbin, vun, tlen2, tlen3, tpick, textr, tbs, tbs2, afill, Go.AM.splice, one, Int.reduceEq, Int.reduceNeg, Nat.reduceGT, Nat.reduceLT, Nat.reduceLeDiff, Nat.reduceEqDiff, ↓reduceIte, reduceCtorEq, Int.reduceToNat, Int.reduceLE, Int.reduceLT, Nat.reduceAdd, Nat.reduceMul, r5, r3, hset_at, List.length_cons, List.length_nil, List.set_cons_zero, List.set_cons_succ, List.cons_append, List.nil_append, List.append_nil, ff_7]
  have k14 := Kp.new n13 H13 (.cells [.int .i64 0] 3 true)
  have hq14 : RS (Value.int .i64) (hset H13 n13 (.cells [.int .i64 0] 3 true)) (some ⟨n13, 0, none⟩) [0] := rs_new (hset_at _ _ _)
  generalize hset H13 n13 (.cells [.int .i64 0] 3 true) = H14 at *
  have hw14 := k14.wf hw13
  have ht0 := trees_gives (w := [0]) (pt := pt2) (pv := pv2) (g := sumsG) hw14 (hr13.mono hw13 k14) hq14 sums_sgm (by unfold maxL; simp)
  refine AtCallY.byD ht0 ?_
  rintro v n15 H15 k15 ⟨t, rfl, _, ht⟩
  have hw15 := k15.wf hw14
  obtain rfl := ss.n0 sums_sgm.ing (ht (by simp))
  simp (config := { maxSteps := 1000000 }) only [SS, forall_const, yx_nil, yx_true, yx_false, y1_false, y1_true, y2_none, y2_some, y3, tguard, acallee, top, tval, fput, tor, vsh, vbin, vun, tlen2, tlen3, tpick, textr, tbs, tbs2, afill, Go.AM.splice, one, Int.reduceEq, Int.reduceNeg, Nat.reduceGT, Nat.reduceLT, Nat.reduceLeDiff, Nat.reduceEqDiff, ↓reduceIte, reduceCtorEq, Int.reduceToNat, Int.reduceLE, Int.reduceLT, Nat.reduceAdd, Nat.reduceMul, c00, decide_true, ff_7]
  refine AtCallY.by sums_gives ?_
  rintro v n16 H16 k16 hg16
  have hw16 := k16.wf hw15
  obtain ⟨pt3, pv3, pr3, rfl, _, _, hr16⟩ := hg16
  simp (config := { maxSteps := 1000000 }) only [SS, forall_const, yx_nil, yx_true, yx_false, y1_false, y1_true, y2_none, y2_some, y3, tguard, acallee, top, tval, fput, tor, vsh, vbin, vun, tlen2, tlen3, tpick, textr, tbs, tbs2, afill, Go.AM.splice, one, Int.reduceEq, Int.reduceNeg, Nat.reduceGT, Nat.reduceLT, Nat.reduceLeDiff, Nat.reduceEqDiff, ↓reduceIte, reduceCtorEq, Int.reduceToNat, Int.reduceLE, Int.reduceLT, Nat.reduceAdd, Nat.reduceMul, r5, r3, hset_at, List.length_cons, List.length_nil, List.set_cons_zero, List.set_cons_succ, List.cons_append, List.nil_append, List.append_nil, ff_7]
  have k17 := Kp.new n16 H16 (.cells [.int .i64 1, .int .i64 0, .int .i64 1, .int .i64 0, .int .i64 1] 3 true)
  have hq17 : RS (Value.int .i64) (hset H16 n16 (.cells [.int .i64 1, .int .i64 0, .int .i64 1, .int .i64 0, .int .i64 1] 3 true)) (some ⟨n16, 0, none⟩) [1, 0, 1, 0, 1] := rs_new (hset_at _ _ _)
  generalize hset H16 n16 (.cells [.int .i64 1, .int .i64 0, .int .i64 1, .int .i64 0, .int .i64 1] 3 true) = H17 at *
  have hw17 := k17.wf hw16
  have ht5 := trees_gives (w := [1, 0, 1, 0, 1]) (pt := pt3) (pv := pv3) (g := sumsG) hw17 (hr16.mono hw16 k17) hq17 sums_sgm (by unfold maxL; simp)
  refine AtCallY.byD ht5 ?_
  rintro v n18 H18 k18 ⟨t, rfl, _, ht⟩
  obtain rfl := ss.n5 (ht (by simp))
  have c22 : (((2 : Nat) : Int) = 2) = True := by simp
  simp (config := { maxSteps := 1000000 }) only [SS, forall_const, yx_nil, yx_true, yx_false, y1_false, y1_true, y2_none, y2_some, y3, tguard, acallee, top, tval, fput, tor, vsh, vbin, vun, tlen2, tlen3, tpick, textr, tbs, tbs2, afill, Go.AM.splice, one, Int.reduceEq, Int.reduceNeg, Nat.reduceGT, Nat.reduceLT, Nat.reduceLeDiff, Nat.reduceEqDiff, ↓reduceIte, reduceCtorEq, Int.reduceToNat, Int.reduceLE, Int.reduceLT, Nat.reduceAdd, Nat.reduceMul, c22, decide_true, ff_7]
  repeat (first | apply WKD.seq | apply WKD.block | apply WKD.skipSeq | apply WKD.skipBlock | apply WKD.retSeq | apply WKD.retBlock | apply WKD.exitSeq | apply WKD.exitHere | refine WKD.exitOn rfl ?_ | ((first | (refine WKD.rgn ?_ ?_; kernel_rfl) | refine AtCallY.now ?_); simp (config := { maxSteps := 1000000 }) only [SS, forall_const, yx_nil, yx_true, yx_false, y1_false, y1_true, y2_none, y2_some, y3, tguard, acallee, top, tval, fput, tor, vsh, vbin, vun, tlen2, tlen3, tpick, textr, tbs, tbs2, afill, Go.AM.splice, one, Int.reduceEq, Int.reduceNeg, Nat.reduceGT, Nat.reduceLT, Nat.reduceLeDiff, Nat.reduceEqDiff, ↓reduceIte, reduceCtorEq, Int.reduceToNat, Int.reduceLE, Int.reduceLT, Nat.reduceAdd, Nat.reduceMul, ff_7]) | (refine WKD.condT ?_ ?_; focus (simp only [ev_tmp, ev_const, fset_apply, Nat.reduceEqDiff, ↓reduceIte, decide_true, decide_false, ff_7]; done)) | (refine WKD.condF ?_ ?_; focus (simp only [ev_tmp, ev_const, fset_apply, Nat.reduceEqDiff, ↓reduceIte, decide_true, decide_false, ff_7]; done)))
  (first | refine WKD.retNil ⟨Or.inr rfl, _, rfl, ?_, ?_⟩ | refine WKD.skipNil ⟨Or.inl rfl, _, rfl, ?_, ?_⟩)
  · have e1 := k1.le
    have e2 := k2.le
    have e3 := k3.le
    have e4 := k4.le
    have e5 := k5.le
    have e6 := k6.le
    have e7 := k7.le
    have e8 := k8.le
    have e10 := k10.le
    have e11 := k11.le
    have e12 := k12.le
    have e13 := k13.le
    have e14 := k14.le
    have e15 := k15.le
    have e16 := k16.le
    have e17 := k17.le
    exact fun z hz => (k18.keep z (by omega)).trans ((k17.keep z (by omega)).trans ((k16.keep z (by omega)).trans ((k15.keep z (by omega)).trans ((k14.keep z (by omega)).trans ((k13.keep z (by omega)).trans ((k12.keep z (by omega)).trans ((k11.keep z (by omega)).trans ((k10.keep z (by omega)).trans ((k8.keep z (by omega)).trans ((k7.keep z (by omega)).trans ((k6.keep z (by omega)).trans ((k5.keep z (by omega)).trans ((k4.keep z (by omega)).trans ((k3.keep z (by omega)).trans ((k2.keep z (by omega)).trans (k1.keep z hz))))))))))))))))
  · simp only [packed, fset_apply, Nat.reduceEqDiff, ↓reduceIte, List.getD_cons_zero, List.getD_cons_succ, ff_7]
end Go.Proofs.Ytemkglelfeidhaa
