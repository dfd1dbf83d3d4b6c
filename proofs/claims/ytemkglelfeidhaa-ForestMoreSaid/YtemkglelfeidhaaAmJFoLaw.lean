/- A part of a proof. Its conditions: none. -/
import Derived.Test.YtemkglelfeidhaaAmJFoAlive
import Derived.Test.YtemkglelfeidhaaAmJFacts
import Derived.Test.YtemkglelfeidhaaAmC
set_option linter.all false
namespace Go.Proofs.Ytemkglelfeidhaa
open Go.AM Go.AM.Fo Go.RowKit
set_option maxRecDepth 100000
theorem tn_dv {g : Gram} {w d : List Int} {t : Nat} (h : Tn g w t) (hd : Dv g [0] d w) : t = 1 ∨ t = 2 := by
  rcases h with ⟨_, h⟩ | ⟨h, _⟩ | ⟨h, _⟩
  · exact absurd hd (h _)
  · exact .inl h
  · exact .inr h
theorem tn_two {g : Gram} {w d d' : List Int} {t : Nat} (h : Tn g w t) (hd : Dv g [0] d w) (hd' : Dv g [0] d' w) (hne : d ≠ d') : t = 2 := by
  rcases h with ⟨_, h⟩ | ⟨_, e, _, h⟩ | ⟨h, _⟩
  · exact absurd hd (h _)
  · exact absurd ((h _ hd).trans (h _ hd').symm) hne
  · exact h
theorem yield_len {g : Gram} (ok : RightOK g) (rules : List Int) (hl : rules.length ≤ 4096) : (yieldS g [0] rules).1.length ≤ 1 + 24 * rules.length := by
  have h := (replayL_ge ok [0] rules (by simp)).2
  unfold yieldS
  split
  · split
    · simp
    · refine Nat.le_trans ?_ h
      unfold leadV
      rw [List.length_map]
      exact (List.takeWhile_sublist _).length_le
  · simp
set_option maxHeartbeats 16000000 in
theorem moreLaw_gives {v : Value} {g : Gram} {pa pb : Option Addr} {a b : List Int} {n : Nat} {H : Heap} (hw : WF n H) (hg : RG H v g) (wg : WG g) (ha : RA (Value.int .i64) H pa a) (hb : RA (Value.int .i64) H pb b) :
    GivesD Try.prog 4 [v, .slice pa a.length a.length, .slice pb b.length b.length] n H fun v _ _ => v = .bool true := by
  have hg0 := hg
  obtain ⟨pt, pv, pr, rfl, ht, hv, hr⟩ := hg
  refine GivesD.of orders ok4 (Nat.le_of_ble_eq_true rfl) ?_
  have k1 := Kp.new n H (.cells (gcells pt pv pr g) 25 true)
  have hb1 := hset_at H n (.cells (gcells pt pv pr g) 25 true)
  repeat (first | apply WKD.seq | apply WKD.block | apply WKD.skipSeq | apply WKD.skipBlock | apply WKD.retSeq | apply WKD.retBlock | apply WKD.exitSeq | apply WKD.exitHere | refine WKD.exitOn rfl ?_)
  (refine WKD.rgn ?_ ?_; kernel_rfl; simp (config := { maxSteps := 1000000 }) only [SS, forall_const, yx_nil, yx_true, yx_false, y1_false, y1_true, y2_none, y2_some, y3, tguard, acallee, top, tval, fput, tor, vsh, vbin, vun, tload, tload2, tload3, tlen2, tlen3, tpick, textr, tbox, one, tbs, tbs2, afill, Go.AM.splice, Int.reduceEq, Int.reduceNeg, Nat.reduceGT, Nat.reduceLT, Nat.reduceLeDiff, Nat.reduceEqDiff, ↓reduceIte, reduceCtorEq, Int.reduceToNat, Int.reduceLE, Int.reduceLT, Nat.reduceAdd, Nat.reduceMul, abox, box_cells, box_one, ff_4])
  generalize hset H n (.cells (gcells pt pv pr g) 25 true) = H1 at *
  have hw1 := k1.wf hw
  repeat (first | apply WKD.seq | apply WKD.block | apply WKD.skipSeq | apply WKD.skipBlock | apply WKD.retSeq | apply WKD.retBlock | apply WKD.exitSeq | apply WKD.exitHere | refine WKD.exitOn rfl ?_ | ((first | (refine WKD.rgn ?_ ?_; kernel_rfl) | refine AtCallY.now ?_); simp (config := { maxSteps := 1000000 }) only [SS, forall_const, yx_nil, yx_true, yx_false, y1_false, y1_true, y2_none, y2_some, y3, tguard, acallee, top, tval, fput, tor, vsh, vbin, vun, tload, tload2, tload3, tlen2, tlen3, tpick, textr, tbox, one, tbs, tbs2, afill, Go.AM.splice, Int.reduceEq, Int.reduceNeg, Nat.reduceGT, Nat.reduceLT, Nat.reduceLeDiff, Nat.reduceEqDiff, ↓reduceIte, reduceCtorEq, Int.reduceToNat, Int.reduceLE, Int.reduceLT, Nat.reduceAdd, Nat.reduceMul, ff_4]) | (refine WKD.condT ?_ ?_; focus (simp only [ev_tmp, ev_const, fset_apply, Nat.reduceEqDiff, ↓reduceIte, decide_true, decide_false, ff_4]; done)) | (refine WKD.condF ?_ ?_; focus (simp only [ev_tmp, ev_const, fset_apply, Nat.reduceEqDiff, ↓reduceIte, decide_true, decide_false, ff_4]; done)))
  refine AtCallY.byD (alive_gives hw1) ?_
  rintro v n2 H2 k2 rfl
  have hw2 := k2.wf hw1
  have hle1 := k1.le
  have hle2 := k2.le
  have hb2 := (k2.keep n (by omega)).trans hb1
  have hg2 := (hg0.mono hw k1).mono hw1 k2
  simp (config := { maxSteps := 1000000 }) only [SS, forall_const, yx_nil, yx_true, yx_false, y1_false, y1_true, y2_none, y2_some, y3, tguard, acallee, top, tval, fput, tor, vsh, vbin, vun, tload, tload2, tload3, tlen2, tlen3, tpick, textr, tbox, one, tbs, tbs2, afill, Go.AM.splice, Int.reduceEq, Int.reduceNeg, Nat.reduceGT, Nat.reduceLT, Nat.reduceLeDiff, Nat.reduceEqDiff, ↓reduceIte, reduceCtorEq, Int.reduceToNat, Int.reduceLE, Int.reduceLT, Nat.reduceAdd, Nat.reduceMul, ff_4]
  repeat (first | apply WKD.seq | apply WKD.block | apply WKD.skipSeq | apply WKD.skipBlock | apply WKD.retSeq | apply WKD.retBlock | apply WKD.exitSeq | apply WKD.exitHere | refine WKD.exitOn rfl ?_ | ((first | (refine WKD.rgn ?_ ?_; kernel_rfl) | refine AtCallY.now ?_); simp (config := { maxSteps := 1000000 }) only [SS, forall_const, yx_nil, yx_true, yx_false, y1_false, y1_true, y2_none, y2_some, y3, tguard, acallee, top, tval, fput, tor, vsh, vbin, vun, tload, tload2, tload3, tlen2, tlen3, tpick, textr, tbox, one, tbs, tbs2, afill, Go.AM.splice, Int.reduceEq, Int.reduceNeg, Nat.reduceGT, Nat.reduceLT, Nat.reduceLeDiff, Nat.reduceEqDiff, ↓reduceIte, reduceCtorEq, Int.reduceToNat, Int.reduceLE, Int.reduceLT, Nat.reduceAdd, Nat.reduceMul, hb2, gc_all, gc_len, ff_4]) | (refine WKD.condT ?_ ?_; focus (simp only [ev_tmp, ev_const, fset_apply, Nat.reduceEqDiff, ↓reduceIte, decide_true, decide_false, hb2, gc_all, gc_len, ff_4]; done)) | (refine WKD.condF ?_ ?_; focus (simp only [ev_tmp, ev_const, fset_apply, Nat.reduceEqDiff, ↓reduceIte, decide_true, decide_false, hb2, gc_all, gc_len, ff_4]; done)))
  refine AtCallY.by (few_gives hw2 hg2 wg) ?_
  rintro v n3 H3 k3 rfl
  have hw3 := k3.wf hw2
  have hle3 := k3.le
  have hb3 := (k3.keep n (by omega)).trans hb2
  have hg3 := hg2.mono hw2 k3
  have kk3 : ∀ z, z < n → H3 z = H z := fun z hz => (k3.keep z (by omega)).trans ((k2.keep z (by omega)).trans (k1.keep z hz))
  cases hf : few g with
  | false =>
    simp (config := { maxSteps := 1000000 }) only [SS, forall_const, yx_nil, yx_true, yx_false, y1_false, y1_true, y2_none, y2_some, y3, tguard, acallee, top, tval, fput, tor, vsh, vbin, vun, tload, tload2, tload3, tlen2, tlen3, tpick, textr, tbox, one, tbs, tbs2, afill, Go.AM.splice, Int.reduceEq, Int.reduceNeg, Nat.reduceGT, Nat.reduceLT, Nat.reduceLeDiff, Nat.reduceEqDiff, ↓reduceIte, reduceCtorEq, Int.reduceToNat, Int.reduceLE, Int.reduceLT, Nat.reduceAdd, Nat.reduceMul, Bool.not_false, ff_4]
    repeat (first | apply WKD.seq | apply WKD.block | apply WKD.skipSeq | apply WKD.skipBlock | apply WKD.retSeq | apply WKD.retBlock | apply WKD.exitSeq | apply WKD.exitHere | refine WKD.exitOn rfl ?_ | ((first | (refine WKD.rgn ?_ ?_; kernel_rfl) | refine AtCallY.now ?_); simp (config := { maxSteps := 1000000 }) only [SS, forall_const, yx_nil, yx_true, yx_false, y1_false, y1_true, y2_none, y2_some, y3, tguard, acallee, top, tval, fput, tor, vsh, vbin, vun, tload, tload2, tload3, tlen2, tlen3, tpick, textr, tbox, one, tbs, tbs2, afill, Go.AM.splice, Int.reduceEq, Int.reduceNeg, Nat.reduceGT, Nat.reduceLT, Nat.reduceLeDiff, Nat.reduceEqDiff, ↓reduceIte, reduceCtorEq, Int.reduceToNat, Int.reduceLE, Int.reduceLT, Nat.reduceAdd, Nat.reduceMul, ff_4]) | (refine WKD.condT ?_ ?_; focus (simp only [ev_tmp, ev_const, fset_apply, Nat.reduceEqDiff, ↓reduceIte, decide_true, decide_false, ff_4]; done)) | (refine WKD.condF ?_ ?_; focus (simp only [ev_tmp, ev_const, fset_apply, Nat.reduceEqDiff, ↓reduceIte, decide_true, decide_false, ff_4]; done)))
    (first | refine WKD.retNil ⟨Or.inr rfl, _, rfl, ?_, ?_⟩ | refine WKD.skipNil ⟨Or.inl rfl, _, rfl, ?_, ?_⟩)
    · exact kk3
    · simp only [packed, fset_apply, Nat.reduceEqDiff, ↓reduceIte, List.getD_cons_zero, List.getD_cons_succ, ff_4]
  | true =>
    simp (config := { maxSteps := 1000000 }) only [SS, forall_const, yx_nil, yx_true, yx_false, y1_false, y1_true, y2_none, y2_some, y3, tguard, acallee, top, tval, fput, tor, vsh, vbin, vun, tload, tload2, tload3, tlen2, tlen3, tpick, textr, tbox, one, tbs, tbs2, afill, Go.AM.splice, Int.reduceEq, Int.reduceNeg, Nat.reduceGT, Nat.reduceLT, Nat.reduceLeDiff, Nat.reduceEqDiff, ↓reduceIte, reduceCtorEq, Int.reduceToNat, Int.reduceLE, Int.reduceLT, Nat.reduceAdd, Nat.reduceMul, Bool.not_true, hb3, gc_all, gc_len, ff_4]
    refine AtCallY.by (right_gives hw3 hg3 wg) ?_
    rintro v n4 H4 k4 ⟨t, rfl, hok⟩
    have hw4 := k4.wf hw3
    have hle4 := k4.le
    have hb4 := (k4.keep n (by omega)).trans hb3
    have hg4 := hg3.mono hw3 k4
    have kk4 : ∀ z, z < n → H4 z = H z := fun z hz => (k4.keep z (by omega)).trans (kk3 z hz)
    cases t with
    | false =>
      simp (config := { maxSteps := 1000000 }) only [SS, forall_const, yx_nil, yx_true, yx_false, y1_false, y1_true, y2_none, y2_some, y3, tguard, acallee, top, tval, fput, tor, vsh, vbin, vun, tload, tload2, tload3, tlen2, tlen3, tpick, textr, tbox, one, tbs, tbs2, afill, Go.AM.splice, Int.reduceEq, Int.reduceNeg, Nat.reduceGT, Nat.reduceLT, Nat.reduceLeDiff, Nat.reduceEqDiff, ↓reduceIte, reduceCtorEq, Int.reduceToNat, Int.reduceLE, Int.reduceLT, Nat.reduceAdd, Nat.reduceMul, Bool.not_false, ff_4]
      repeat (first | apply WKD.seq | apply WKD.block | apply WKD.skipSeq | apply WKD.skipBlock | apply WKD.retSeq | apply WKD.retBlock | apply WKD.exitSeq | apply WKD.exitHere | refine WKD.exitOn rfl ?_ | ((first | (refine WKD.rgn ?_ ?_; kernel_rfl) | refine AtCallY.now ?_); simp (config := { maxSteps := 1000000 }) only [SS, forall_const, yx_nil, yx_true, yx_false, y1_false, y1_true, y2_none, y2_some, y3, tguard, acallee, top, tval, fput, tor, vsh, vbin, vun, tload, tload2, tload3, tlen2, tlen3, tpick, textr, tbox, one, tbs, tbs2, afill, Go.AM.splice, Int.reduceEq, Int.reduceNeg, Nat.reduceGT, Nat.reduceLT, Nat.reduceLeDiff, Nat.reduceEqDiff, ↓reduceIte, reduceCtorEq, Int.reduceToNat, Int.reduceLE, Int.reduceLT, Nat.reduceAdd, Nat.reduceMul, ff_4]) | (refine WKD.condT ?_ ?_; focus (simp only [ev_tmp, ev_const, fset_apply, Nat.reduceEqDiff, ↓reduceIte, decide_true, decide_false, ff_4]; done)) | (refine WKD.condF ?_ ?_; focus (simp only [ev_tmp, ev_const, fset_apply, Nat.reduceEqDiff, ↓reduceIte, decide_true, decide_false, ff_4]; done)))
      (first | refine WKD.retNil ⟨Or.inr rfl, _, rfl, ?_, ?_⟩ | refine WKD.skipNil ⟨Or.inl rfl, _, rfl, ?_, ?_⟩)
      · exact kk4
      · simp only [packed, fset_apply, Nat.reduceEqDiff, ↓reduceIte, List.getD_cons_zero, List.getD_cons_succ, ff_4]
    | true =>
      have ok := hok rfl
      by_cases hal : (60 : Int) < (a.length : Int)
      · simp (config := { maxSteps := 1000000 }) only [SS, forall_const, yx_nil, yx_true, yx_false, y1_false, y1_true, y2_none, y2_some, y3, tguard, acallee, top, tval, fput, tor, vsh, vbin, vun, tload, tload2, tload3, tlen2, tlen3, tpick, textr, tbox, one, tbs, tbs2, afill, Go.AM.splice, Int.reduceEq, Int.reduceNeg, Nat.reduceGT, Nat.reduceLT, Nat.reduceLeDiff, Nat.reduceEqDiff, ↓reduceIte, reduceCtorEq, Int.reduceToNat, Int.reduceLE, Int.reduceLT, Nat.reduceAdd, Nat.reduceMul, Bool.not_true, hal, decide_true, ff_4]
        repeat (first | apply WKD.seq | apply WKD.block | apply WKD.skipSeq | apply WKD.skipBlock | apply WKD.retSeq | apply WKD.retBlock | apply WKD.exitSeq | apply WKD.exitHere | refine WKD.exitOn rfl ?_ | ((first | (refine WKD.rgn ?_ ?_; kernel_rfl) | refine AtCallY.now ?_); simp (config := { maxSteps := 1000000 }) only [SS, forall_const, yx_nil, yx_true, yx_false, y1_false, y1_true, y2_none, y2_some, y3, tguard, acallee, top, tval, fput, tor, vsh, vbin, vun, tload, tload2, tload3, tlen2, tlen3, tpick, textr, tbox, one, tbs, tbs2, afill, Go.AM.splice, Int.reduceEq, Int.reduceNeg, Nat.reduceGT, Nat.reduceLT, Nat.reduceLeDiff, Nat.reduceEqDiff, ↓reduceIte, reduceCtorEq, Int.reduceToNat, Int.reduceLE, Int.reduceLT, Nat.reduceAdd, Nat.reduceMul, ff_4]) | (refine WKD.condT ?_ ?_; focus (simp only [ev_tmp, ev_const, fset_apply, Nat.reduceEqDiff, ↓reduceIte, decide_true, decide_false, ff_4]; done)) | (refine WKD.condF ?_ ?_; focus (simp only [ev_tmp, ev_const, fset_apply, Nat.reduceEqDiff, ↓reduceIte, decide_true, decide_false, ff_4]; done)))
        (first | refine WKD.retNil ⟨Or.inr rfl, _, rfl, ?_, ?_⟩ | refine WKD.skipNil ⟨Or.inl rfl, _, rfl, ?_, ?_⟩)
        · exact kk4
        · simp only [packed, fset_apply, Nat.reduceEqDiff, ↓reduceIte, List.getD_cons_zero, List.getD_cons_succ, ff_4]
      by_cases hbl : (60 : Int) < (b.length : Int)
      · simp (config := { maxSteps := 1000000 }) only [SS, forall_const, yx_nil, yx_true, yx_false, y1_false, y1_true, y2_none, y2_some, y3, tguard, acallee, top, tval, fput, tor, vsh, vbin, vun, tload, tload2, tload3, tlen2, tlen3, tpick, textr, tbox, one, tbs, tbs2, afill, Go.AM.splice, Int.reduceEq, Int.reduceNeg, Nat.reduceGT, Nat.reduceLT, Nat.reduceLeDiff, Nat.reduceEqDiff, ↓reduceIte, reduceCtorEq, Int.reduceToNat, Int.reduceLE, Int.reduceLT, Nat.reduceAdd, Nat.reduceMul, Bool.not_true, hal, hbl, decide_true, decide_false, ff_4]
        repeat (first | apply WKD.seq | apply WKD.block | apply WKD.skipSeq | apply WKD.skipBlock | apply WKD.retSeq | apply WKD.retBlock | apply WKD.exitSeq | apply WKD.exitHere | refine WKD.exitOn rfl ?_ | ((first | (refine WKD.rgn ?_ ?_; kernel_rfl) | refine AtCallY.now ?_); simp (config := { maxSteps := 1000000 }) only [SS, forall_const, yx_nil, yx_true, yx_false, y1_false, y1_true, y2_none, y2_some, y3, tguard, acallee, top, tval, fput, tor, vsh, vbin, vun, tload, tload2, tload3, tlen2, tlen3, tpick, textr, tbox, one, tbs, tbs2, afill, Go.AM.splice, Int.reduceEq, Int.reduceNeg, Nat.reduceGT, Nat.reduceLT, Nat.reduceLeDiff, Nat.reduceEqDiff, ↓reduceIte, reduceCtorEq, Int.reduceToNat, Int.reduceLE, Int.reduceLT, Nat.reduceAdd, Nat.reduceMul, ff_4]) | (refine WKD.condT ?_ ?_; focus (simp only [ev_tmp, ev_const, fset_apply, Nat.reduceEqDiff, ↓reduceIte, decide_true, decide_false, ff_4]; done)) | (refine WKD.condF ?_ ?_; focus (simp only [ev_tmp, ev_const, fset_apply, Nat.reduceEqDiff, ↓reduceIte, decide_true, decide_false, ff_4]; done)))
        (first | refine WKD.retNil ⟨Or.inr rfl, _, rfl, ?_, ?_⟩ | refine WKD.skipNil ⟨Or.inl rfl, _, rfl, ?_, ?_⟩)
        · exact kk4
        · simp only [packed, fset_apply, Nat.reduceEqDiff, ↓reduceIte, List.getD_cons_zero, List.getD_cons_succ, ff_4]
      simp (config := { maxSteps := 1000000 }) only [SS, forall_const, yx_nil, yx_true, yx_false, y1_false, y1_true, y2_none, y2_some, y3, tguard, acallee, top, tval, fput, tor, vsh, vbin, vun, tload, tload2, tload3, tlen2, tlen3, tpick, textr, tbox, one, tbs, tbs2, afill, Go.AM.splice, Int.reduceEq, Int.reduceNeg, Nat.reduceGT, Nat.reduceLT, Nat.reduceLeDiff, Nat.reduceEqDiff, ↓reduceIte, reduceCtorEq, Int.reduceToNat, Int.reduceLE, Int.reduceLT, Nat.reduceAdd, Nat.reduceMul, Bool.not_true, hal, hbl, decide_true, decide_false, ff_4]
      repeat (first | apply WKD.seq | apply WKD.block | apply WKD.skipSeq | apply WKD.skipBlock | apply WKD.retSeq | apply WKD.retBlock | apply WKD.exitSeq | apply WKD.exitHere | refine WKD.exitOn rfl ?_ | ((first | (refine WKD.rgn ?_ ?_; kernel_rfl) | refine AtCallY.now ?_); simp (config := { maxSteps := 1000000 }) only [SS, forall_const, yx_nil, yx_true, yx_false, y1_false, y1_true, y2_none, y2_some, y3, tguard, acallee, top, tval, fput, tor, vsh, vbin, vun, tload, tload2, tload3, tlen2, tlen3, tpick, textr, tbox, one, tbs, tbs2, afill, Go.AM.splice, Int.reduceEq, Int.reduceNeg, Nat.reduceGT, Nat.reduceLT, Nat.reduceLeDiff, Nat.reduceEqDiff, ↓reduceIte, reduceCtorEq, Int.reduceToNat, Int.reduceLE, Int.reduceLT, Nat.reduceAdd, Nat.reduceMul, hb4, gc_all, gc_len, ff_4]) | (refine WKD.condT ?_ ?_; focus (simp only [ev_tmp, ev_const, fset_apply, Nat.reduceEqDiff, ↓reduceIte, decide_true, decide_false, hb4, gc_all, gc_len, ff_4]; done)) | (refine WKD.condF ?_ ?_; focus (simp only [ev_tmp, ev_const, fset_apply, Nat.reduceEqDiff, ↓reduceIte, decide_true, decide_false, hb4, gc_all, gc_len, ff_4]; done)))
      have k5 := Kp.new n4 H4 (.cells [.int .i64 0] 3 true)
      have hq5 : RS (Value.int .i64) (hset H4 n4 (.cells [.int .i64 0] 3 true)) (some ⟨n4, 0, none⟩) [0] := rs_new (hset_at _ _ _)
      generalize hset H4 n4 (.cells [.int .i64 0] 3 true) = H5 at *
      have hw5 := k5.wf hw4
      have hg5 := hg4.mono hw4 k5
      have hb5 := (k5.keep n (by omega)).trans hb4
      have kA := k1.trans (k2.trans (k3.trans (k4.trans k5)))
      have sg := ok_sgm ok hf
      have hya := yield_gives (form := [0]) (rules := a) hw5 hg5 wg ok hq5.ra (ha.mono hw kA) (by simp; omega) (by simp)
      have hyd := yield_dv sg.ing (form := [0]) (rules := a)
      have hyl := yield_len ok a (by omega)
      generalize yieldS g [0] a = Y at *
      obtain ⟨w, e⟩ := Y
      simp only at hya hyd hyl
      refine AtCallY.by hya ?_
      rintro v n6 H6 k6 ⟨p', rfl, hrw⟩
      have hw6 := k6.wf hw5
      have hg6 := hg5.mono hw5 k6
      have hle6 := k6.le
      have hb6 := (k6.keep n (by omega)).trans hb5
      have kk6 : ∀ z, z < n → H6 z = H z := fun z hz => (k6.keep z (by omega)).trans (kA.keep z hz)
      by_cases he : e = 0
      case neg =>
        have he' : ((e : Int) = 0) = False := by simp only [eq_iff_iff, iff_false]; omega
        simp (config := { maxSteps := 1000000 }) only [SS, forall_const, yx_nil, yx_true, yx_false, y1_false, y1_true, y2_none, y2_some, y3, tguard, acallee, top, tval, fput, tor, vsh, vbin, vun, tload, tload2, tload3, tlen2, tlen3, tpick, textr, tbox, one, tbs, tbs2, afill, Go.AM.splice, Int.reduceEq, Int.reduceNeg, Nat.reduceGT, Nat.reduceLT, Nat.reduceLeDiff, Nat.reduceEqDiff, ↓reduceIte, reduceCtorEq, Int.reduceToNat, Int.reduceLE, Int.reduceLT, Nat.reduceAdd, Nat.reduceMul, ff_4]
        repeat (first | apply WKD.seq | apply WKD.block | apply WKD.skipSeq | apply WKD.skipBlock | apply WKD.retSeq | apply WKD.retBlock | apply WKD.exitSeq | apply WKD.exitHere | refine WKD.exitOn rfl ?_ | ((first | (refine WKD.rgn ?_ ?_; kernel_rfl) | refine AtCallY.now ?_); simp (config := { maxSteps := 1000000 }) only [SS, forall_const, yx_nil, yx_true, yx_false, y1_false, y1_true, y2_none, y2_some, y3, tguard, acallee, top, tval, fput, tor, vsh, vbin, vun, tload, tload2, tload3, tlen2, tlen3, tpick, textr, tbox, one, tbs, tbs2, afill, Go.AM.splice, Int.reduceEq, Int.reduceNeg, Nat.reduceGT, Nat.reduceLT, Nat.reduceLeDiff, Nat.reduceEqDiff, ↓reduceIte, reduceCtorEq, Int.reduceToNat, Int.reduceLE, Int.reduceLT, Nat.reduceAdd, Nat.reduceMul, he', decide_false, Bool.not_false, ff_4]) | (refine WKD.condT ?_ ?_; focus (simp only [ev_tmp, ev_const, fset_apply, Nat.reduceEqDiff, ↓reduceIte, decide_true, decide_false, he', decide_false, Bool.not_false, ff_4]; done)) | (refine WKD.condF ?_ ?_; focus (simp only [ev_tmp, ev_const, fset_apply, Nat.reduceEqDiff, ↓reduceIte, decide_true, decide_false, he', decide_false, Bool.not_false, ff_4]; done)))
        (first | refine WKD.retNil ⟨Or.inr rfl, _, rfl, ?_, ?_⟩ | refine WKD.skipNil ⟨Or.inl rfl, _, rfl, ?_, ?_⟩)
        · exact kk6
        · simp only [packed, fset_apply, Nat.reduceEqDiff, ↓reduceIte, List.getD_cons_zero, List.getD_cons_succ, ff_4]
      subst he
      have c00 : (((0 : Nat) : Int) = 0) = True := by simp
      have hda := hyd rfl (by omega)
      by_cases hwl : (10 : Int) < (w.length : Int)
      · simp (config := { maxSteps := 1000000 }) only [SS, forall_const, yx_nil, yx_true, yx_false, y1_false, y1_true, y2_none, y2_some, y3, tguard, acallee, top, tval, fput, tor, vsh, vbin, vun, tload, tload2, tload3, tlen2, tlen3, tpick, textr, tbox, one, tbs, tbs2, afill, Go.AM.splice, Int.reduceEq, Int.reduceNeg, Nat.reduceGT, Nat.reduceLT, Nat.reduceLeDiff, Nat.reduceEqDiff, ↓reduceIte, reduceCtorEq, Int.reduceToNat, Int.reduceLE, Int.reduceLT, Nat.reduceAdd, Nat.reduceMul, ff_4]
        repeat (first | apply WKD.seq | apply WKD.block | apply WKD.skipSeq | apply WKD.skipBlock | apply WKD.retSeq | apply WKD.retBlock | apply WKD.exitSeq | apply WKD.exitHere | refine WKD.exitOn rfl ?_ | ((first | (refine WKD.rgn ?_ ?_; kernel_rfl) | refine AtCallY.now ?_); simp (config := { maxSteps := 1000000 }) only [SS, forall_const, yx_nil, yx_true, yx_false, y1_false, y1_true, y2_none, y2_some, y3, tguard, acallee, top, tval, fput, tor, vsh, vbin, vun, tload, tload2, tload3, tlen2, tlen3, tpick, textr, tbox, one, tbs, tbs2, afill, Go.AM.splice, Int.reduceEq, Int.reduceNeg, Nat.reduceGT, Nat.reduceLT, Nat.reduceLeDiff, Nat.reduceEqDiff, ↓reduceIte, reduceCtorEq, Int.reduceToNat, Int.reduceLE, Int.reduceLT, Nat.reduceAdd, Nat.reduceMul, c00, hwl, decide_true, decide_false, Bool.not_true, ff_4]) | (refine WKD.condT ?_ ?_; focus (simp only [ev_tmp, ev_const, fset_apply, Nat.reduceEqDiff, ↓reduceIte, decide_true, decide_false, c00, hwl, decide_true, decide_false, Bool.not_true, ff_4]; done)) | (refine WKD.condF ?_ ?_; focus (simp only [ev_tmp, ev_const, fset_apply, Nat.reduceEqDiff, ↓reduceIte, decide_true, decide_false, c00, hwl, decide_true, decide_false, Bool.not_true, ff_4]; done)))
        (first | refine WKD.retNil ⟨Or.inr rfl, _, rfl, ?_, ?_⟩ | refine WKD.skipNil ⟨Or.inl rfl, _, rfl, ?_, ?_⟩)
        · exact kk6
        · simp only [packed, fset_apply, Nat.reduceEqDiff, ↓reduceIte, List.getD_cons_zero, List.getD_cons_succ, ff_4]
      simp (config := { maxSteps := 1000000 }) only [SS, forall_const, yx_nil, yx_true, yx_false, y1_false, y1_true, y2_none, y2_some, y3, tguard, acallee, top, tval, fput, tor, vsh, vbin, vun, tload, tload2, tload3, tlen2, tlen3, tpick, textr, tbox, one, tbs, tbs2, afill, Go.AM.splice, Int.reduceEq, Int.reduceNeg, Nat.reduceGT, Nat.reduceLT, Nat.reduceLeDiff, Nat.reduceEqDiff, ↓reduceIte, reduceCtorEq, Int.reduceToNat, Int.reduceLE, Int.reduceLT, Nat.reduceAdd, Nat.reduceMul, ff_4]
      repeat (first | apply WKD.seq | apply WKD.block | apply WKD.skipSeq | apply WKD.skipBlock | apply WKD.retSeq | apply WKD.retBlock | apply WKD.exitSeq | apply WKD.exitHere | refine WKD.exitOn rfl ?_ | ((first | (refine WKD.rgn ?_ ?_; kernel_rfl) | refine AtCallY.now ?_); simp (config := { maxSteps := 1000000 }) only [SS, forall_const, yx_nil, yx_true, yx_false, y1_false, y1_true, y2_none, y2_some, y3, tguard, acallee, top, tval, fput, tor, vsh, vbin, vun, tload, tload2, tload3, tlen2, tlen3, tpick, textr, tbox, one, tbs, tbs2, afill, Go.AM.splice, Int.reduceEq, Int.reduceNeg, Nat.reduceGT, Nat.reduceLT, Nat.reduceLeDiff, Nat.reduceEqDiff, ↓reduceIte, reduceCtorEq, Int.reduceToNat, Int.reduceLE, Int.reduceLT, Nat.reduceAdd, Nat.reduceMul, c00, hwl, hb6, gc_all, gc_len, decide_true, decide_false, Bool.not_true, ff_4]) | (refine WKD.condT ?_ ?_; focus (simp only [ev_tmp, ev_const, fset_apply, Nat.reduceEqDiff, ↓reduceIte, decide_true, decide_false, c00, hwl, hb6, gc_all, gc_len, decide_true, decide_false, Bool.not_true, ff_4]; done)) | (refine WKD.condF ?_ ?_; focus (simp only [ev_tmp, ev_const, fset_apply, Nat.reduceEqDiff, ↓reduceIte, decide_true, decide_false, c00, hwl, hb6, gc_all, gc_len, decide_true, decide_false, Bool.not_true, ff_4]; done)))
      have k7 := Kp.new n6 H6 (.cells [.int .i64 0] 3 true)
      have hq7 : RS (Value.int .i64) (hset H6 n6 (.cells [.int .i64 0] 3 true)) (some ⟨n6, 0, none⟩) [0] := rs_new (hset_at _ _ _)
      generalize hset H6 n6 (.cells [.int .i64 0] 3 true) = H7 at *
      have hw7 := k7.wf hw6
      have hg7 := hg6.mono hw6 k7
      have hb7 := (k7.keep n (by omega)).trans hb6
      have kB := kA.trans (k6.trans k7)
      have hyb := yield_gives (form := [0]) (rules := b) hw7 hg7 wg ok hq7.ra (hb.mono hw kB) (by simp; omega) (by simp)
      have hydb := yield_dv sg.ing (form := [0]) (rules := b)
      have hylb := yield_len ok b (by omega)
      generalize yieldS g [0] b = Y at *
      obtain ⟨x, e⟩ := Y
      simp only at hyb hydb hylb
      refine AtCallY.by hyb ?_
      rintro v n8 H8 k8 ⟨p2, rfl, hrx⟩
      have hw8 := k8.wf hw7
      have hg8 := hg7.mono hw7 k8
      have hle8 := k8.le
      have hb8 := (k8.keep n (by omega)).trans hb7
      have hrw8 := hrw.mono hw6 (k7.trans k8)
      have hr8 := hr.mono hw (kB.trans k8)
      have kk8 : ∀ z, z < n → H8 z = H z := fun z hz => (kB.trans k8).keep z hz
      simp (config := { maxSteps := 1000000 }) only [SS, forall_const, yx_nil, yx_true, yx_false, y1_false, y1_true, y2_none, y2_some, y3, tguard, acallee, top, tval, fput, tor, vsh, vbin, vun, tload, tload2, tload3, tlen2, tlen3, tpick, textr, tbox, one, tbs, tbs2, afill, Go.AM.splice, Int.reduceEq, Int.reduceNeg, Nat.reduceGT, Nat.reduceLT, Nat.reduceLeDiff, Nat.reduceEqDiff, ↓reduceIte, reduceCtorEq, Int.reduceToNat, Int.reduceLE, Int.reduceLT, Nat.reduceAdd, Nat.reduceMul, ff_4]
      repeat (first | apply WKD.seq | apply WKD.block | apply WKD.skipSeq | apply WKD.skipBlock | apply WKD.retSeq | apply WKD.retBlock | apply WKD.exitSeq | apply WKD.exitHere | refine WKD.exitOn rfl ?_ | ((first | (refine WKD.rgn ?_ ?_; kernel_rfl) | refine AtCallY.now ?_); simp (config := { maxSteps := 1000000 }) only [SS, forall_const, yx_nil, yx_true, yx_false, y1_false, y1_true, y2_none, y2_some, y3, tguard, acallee, top, tval, fput, tor, vsh, vbin, vun, tload, tload2, tload3, tlen2, tlen3, tpick, textr, tbox, one, tbs, tbs2, afill, Go.AM.splice, Int.reduceEq, Int.reduceNeg, Nat.reduceGT, Nat.reduceLT, Nat.reduceLeDiff, Nat.reduceEqDiff, ↓reduceIte, reduceCtorEq, Int.reduceToNat, Int.reduceLE, Int.reduceLT, Nat.reduceAdd, Nat.reduceMul, hb8, gc_all, gc_len, ff_4]) | (refine WKD.condT ?_ ?_; focus (simp only [ev_tmp, ev_const, fset_apply, Nat.reduceEqDiff, ↓reduceIte, decide_true, decide_false, hb8, gc_all, gc_len, ff_4]; done)) | (refine WKD.condF ?_ ?_; focus (simp only [ev_tmp, ev_const, fset_apply, Nat.reduceEqDiff, ↓reduceIte, decide_true, decide_false, hb8, gc_all, gc_len, ff_4]; done)))
      have ht := trees_gives (pt := pt) (pv := pv) (pr := pr) (g := g) hw8 hr8 hrw8 sg (by unfold maxL; omega)
      refine AtCallY.byD ht ?_
      rintro v n9 H9 k9 ⟨t, rfl, _, htn⟩
      have hw9 := k9.wf hw8
      have hle9 := k9.le
      have htn := htn (by omega)
      have ht12 := tn_dv htn hda
      have hn8 := k8.le
      have hn5 := k5.le
      have hn4 := k4.le
      have hn7 := k7.le
      have kk9 : ∀ z, z < n → H9 z = H z := fun z hz => (k9.keep z (by omega)).trans (kk8 z hz)
      have ht1 : ((t : Int) < 1) = False := by simp only [eq_iff_iff, iff_false]; omega
      by_cases he : e = 0
      case neg =>
        have he' : ((e : Int) = 0) = False := by simp only [eq_iff_iff, iff_false]; omega
        simp (config := { maxSteps := 1000000 }) only [SS, forall_const, yx_nil, yx_true, yx_false, y1_false, y1_true, y2_none, y2_some, y3, tguard, acallee, top, tval, fput, tor, vsh, vbin, vun, tload, tload2, tload3, tlen2, tlen3, tpick, textr, tbox, one, tbs, tbs2, afill, Go.AM.splice, Int.reduceEq, Int.reduceNeg, Nat.reduceGT, Nat.reduceLT, Nat.reduceLeDiff, Nat.reduceEqDiff, ↓reduceIte, reduceCtorEq, Int.reduceToNat, Int.reduceLE, Int.reduceLT, Nat.reduceAdd, Nat.reduceMul, ff_4]
        repeat (first | apply WKD.seq | apply WKD.block | apply WKD.skipSeq | apply WKD.skipBlock | apply WKD.retSeq | apply WKD.retBlock | apply WKD.exitSeq | apply WKD.exitHere | refine WKD.exitOn rfl ?_ | ((first | (refine WKD.rgn ?_ ?_; kernel_rfl) | refine AtCallY.now ?_); simp (config := { maxSteps := 1000000 }) only [SS, forall_const, yx_nil, yx_true, yx_false, y1_false, y1_true, y2_none, y2_some, y3, tguard, acallee, top, tval, fput, tor, vsh, vbin, vun, tload, tload2, tload3, tlen2, tlen3, tpick, textr, tbox, one, tbs, tbs2, afill, Go.AM.splice, Int.reduceEq, Int.reduceNeg, Nat.reduceGT, Nat.reduceLT, Nat.reduceLeDiff, Nat.reduceEqDiff, ↓reduceIte, reduceCtorEq, Int.reduceToNat, Int.reduceLE, Int.reduceLT, Nat.reduceAdd, Nat.reduceMul, ht1, he', decide_false, ff_4]) | (refine WKD.condT ?_ ?_; focus (simp only [ev_tmp, ev_const, fset_apply, Nat.reduceEqDiff, ↓reduceIte, decide_true, decide_false, ht1, he', decide_false, ff_4]; done)) | (refine WKD.condF ?_ ?_; focus (simp only [ev_tmp, ev_const, fset_apply, Nat.reduceEqDiff, ↓reduceIte, decide_true, decide_false, ht1, he', decide_false, ff_4]; done)))
        (first | refine WKD.retNil ⟨Or.inr rfl, _, rfl, ?_, ?_⟩ | refine WKD.skipNil ⟨Or.inl rfl, _, rfl, ?_, ?_⟩)
        · exact kk9
        · simp only [packed, fset_apply, Nat.reduceEqDiff, ↓reduceIte, List.getD_cons_zero, List.getD_cons_succ, ff_4]
      subst he
      have hdb := hydb rfl (by omega)
      simp (config := { maxSteps := 1000000 }) only [SS, forall_const, yx_nil, yx_true, yx_false, y1_false, y1_true, y2_none, y2_some, y3, tguard, acallee, top, tval, fput, tor, vsh, vbin, vun, tload, tload2, tload3, tlen2, tlen3, tpick, textr, tbox, one, tbs, tbs2, afill, Go.AM.splice, Int.reduceEq, Int.reduceNeg, Nat.reduceGT, Nat.reduceLT, Nat.reduceLeDiff, Nat.reduceEqDiff, ↓reduceIte, reduceCtorEq, Int.reduceToNat, Int.reduceLE, Int.reduceLT, Nat.reduceAdd, Nat.reduceMul, ff_4]
      repeat (first | apply WKD.seq | apply WKD.block | apply WKD.skipSeq | apply WKD.skipBlock | apply WKD.retSeq | apply WKD.retBlock | apply WKD.exitSeq | apply WKD.exitHere | refine WKD.exitOn rfl ?_ | ((first | (refine WKD.rgn ?_ ?_; kernel_rfl) | refine AtCallY.now ?_); simp (config := { maxSteps := 1000000 }) only [SS, forall_const, yx_nil, yx_true, yx_false, y1_false, y1_true, y2_none, y2_some, y3, tguard, acallee, top, tval, fput, tor, vsh, vbin, vun, tload, tload2, tload3, tlen2, tlen3, tpick, textr, tbox, one, tbs, tbs2, afill, Go.AM.splice, Int.reduceEq, Int.reduceNeg, Nat.reduceGT, Nat.reduceLT, Nat.reduceLeDiff, Nat.reduceEqDiff, ↓reduceIte, reduceCtorEq, Int.reduceToNat, Int.reduceLE, Int.reduceLT, Nat.reduceAdd, Nat.reduceMul, ht1, c00, decide_false, decide_true, ff_4]) | (refine WKD.condT ?_ ?_; focus (simp only [ev_tmp, ev_const, fset_apply, Nat.reduceEqDiff, ↓reduceIte, decide_true, decide_false, ht1, c00, decide_false, decide_true, ff_4]; done)) | (refine WKD.condF ?_ ?_; focus (simp only [ev_tmp, ev_const, fset_apply, Nat.reduceEqDiff, ↓reduceIte, decide_true, decide_false, ht1, c00, decide_false, decide_true, ff_4]; done)))
      refine AtCallY.by (same_gives (hrw8.mono hw8 k9).ra (hrx.mono hw8 k9).ra (by unfold maxL; omega) (by unfold maxL; omega)) ?_
      rintro v n10 H10 _ ⟨rfl, rfl, rfl⟩
      by_cases hs : w = x
      case neg =>
        have hs' : same w x = false := by rw [Bool.eq_false_iff]; exact fun e => hs (same_iff3.1 e)
        simp (config := { maxSteps := 1000000 }) only [SS, forall_const, yx_nil, yx_true, yx_false, y1_false, y1_true, y2_none, y2_some, y3, tguard, acallee, top, tval, fput, tor, vsh, vbin, vun, tload, tload2, tload3, tlen2, tlen3, tpick, textr, tbox, one, tbs, tbs2, afill, Go.AM.splice, Int.reduceEq, Int.reduceNeg, Nat.reduceGT, Nat.reduceLT, Nat.reduceLeDiff, Nat.reduceEqDiff, ↓reduceIte, reduceCtorEq, Int.reduceToNat, Int.reduceLE, Int.reduceLT, Nat.reduceAdd, Nat.reduceMul, hs', ff_4]
        repeat (first | apply WKD.seq | apply WKD.block | apply WKD.skipSeq | apply WKD.skipBlock | apply WKD.retSeq | apply WKD.retBlock | apply WKD.exitSeq | apply WKD.exitHere | refine WKD.exitOn rfl ?_ | ((first | (refine WKD.rgn ?_ ?_; kernel_rfl) | refine AtCallY.now ?_); simp (config := { maxSteps := 1000000 }) only [SS, forall_const, yx_nil, yx_true, yx_false, y1_false, y1_true, y2_none, y2_some, y3, tguard, acallee, top, tval, fput, tor, vsh, vbin, vun, tload, tload2, tload3, tlen2, tlen3, tpick, textr, tbox, one, tbs, tbs2, afill, Go.AM.splice, Int.reduceEq, Int.reduceNeg, Nat.reduceGT, Nat.reduceLT, Nat.reduceLeDiff, Nat.reduceEqDiff, ↓reduceIte, reduceCtorEq, Int.reduceToNat, Int.reduceLE, Int.reduceLT, Nat.reduceAdd, Nat.reduceMul, ff_4]) | (refine WKD.condT ?_ ?_; focus (simp only [ev_tmp, ev_const, fset_apply, Nat.reduceEqDiff, ↓reduceIte, decide_true, decide_false, ff_4]; done)) | (refine WKD.condF ?_ ?_; focus (simp only [ev_tmp, ev_const, fset_apply, Nat.reduceEqDiff, ↓reduceIte, decide_true, decide_false, ff_4]; done)))
        (first | refine WKD.retNil ⟨Or.inr rfl, _, rfl, ?_, ?_⟩ | refine WKD.skipNil ⟨Or.inl rfl, _, rfl, ?_, ?_⟩)
        · exact kk9
        · simp only [packed, fset_apply, Nat.reduceEqDiff, ↓reduceIte, List.getD_cons_zero, List.getD_cons_succ, ff_4]
      have hs' : same w x = true := same_iff3.2 hs
      have kF := kB.trans (k8.trans k9)
      simp (config := { maxSteps := 1000000 }) only [SS, forall_const, yx_nil, yx_true, yx_false, y1_false, y1_true, y2_none, y2_some, y3, tguard, acallee, top, tval, fput, tor, vsh, vbin, vun, tload, tload2, tload3, tlen2, tlen3, tpick, textr, tbox, one, tbs, tbs2, afill, Go.AM.splice, Int.reduceEq, Int.reduceNeg, Nat.reduceGT, Nat.reduceLT, Nat.reduceLeDiff, Nat.reduceEqDiff, ↓reduceIte, reduceCtorEq, Int.reduceToNat, Int.reduceLE, Int.reduceLT, Nat.reduceAdd, Nat.reduceMul, hs', ff_4]
      refine AtCallY.by (same_gives (ha.mono hw kF) (hb.mono hw kF) (by unfold maxL; omega) (by unfold maxL; omega)) ?_
      rintro v n11 H11 _ ⟨rfl, rfl, rfl⟩
      by_cases hab : a = b
      · have hab' : same a b = true := same_iff3.2 hab
        simp (config := { maxSteps := 1000000 }) only [SS, forall_const, yx_nil, yx_true, yx_false, y1_false, y1_true, y2_none, y2_some, y3, tguard, acallee, top, tval, fput, tor, vsh, vbin, vun, tload, tload2, tload3, tlen2, tlen3, tpick, textr, tbox, one, tbs, tbs2, afill, Go.AM.splice, Int.reduceEq, Int.reduceNeg, Nat.reduceGT, Nat.reduceLT, Nat.reduceLeDiff, Nat.reduceEqDiff, ↓reduceIte, reduceCtorEq, Int.reduceToNat, Int.reduceLE, Int.reduceLT, Nat.reduceAdd, Nat.reduceMul, hab', Bool.not_true, ff_4]
        repeat (first | apply WKD.seq | apply WKD.block | apply WKD.skipSeq | apply WKD.skipBlock | apply WKD.retSeq | apply WKD.retBlock | apply WKD.exitSeq | apply WKD.exitHere | refine WKD.exitOn rfl ?_ | ((first | (refine WKD.rgn ?_ ?_; kernel_rfl) | refine AtCallY.now ?_); simp (config := { maxSteps := 1000000 }) only [SS, forall_const, yx_nil, yx_true, yx_false, y1_false, y1_true, y2_none, y2_some, y3, tguard, acallee, top, tval, fput, tor, vsh, vbin, vun, tload, tload2, tload3, tlen2, tlen3, tpick, textr, tbox, one, tbs, tbs2, afill, Go.AM.splice, Int.reduceEq, Int.reduceNeg, Nat.reduceGT, Nat.reduceLT, Nat.reduceLeDiff, Nat.reduceEqDiff, ↓reduceIte, reduceCtorEq, Int.reduceToNat, Int.reduceLE, Int.reduceLT, Nat.reduceAdd, Nat.reduceMul, ff_4]) | (refine WKD.condT ?_ ?_; focus (simp only [ev_tmp, ev_const, fset_apply, Nat.reduceEqDiff, ↓reduceIte, decide_true, decide_false, ff_4]; done)) | (refine WKD.condF ?_ ?_; focus (simp only [ev_tmp, ev_const, fset_apply, Nat.reduceEqDiff, ↓reduceIte, decide_true, decide_false, ff_4]; done)))
        (first | refine WKD.retNil ⟨Or.inr rfl, _, rfl, ?_, ?_⟩ | refine WKD.skipNil ⟨Or.inl rfl, _, rfl, ?_, ?_⟩)
        · exact kk9
        · simp only [packed, fset_apply, Nat.reduceEqDiff, ↓reduceIte, List.getD_cons_zero, List.getD_cons_succ, ff_4]
      have hab' : same a b = false := by rw [Bool.eq_false_iff]; exact fun e => hab (same_iff3.1 e)
      have ht2 := tn_two htn hda (by rw [hs]; exact hdb) hab
      have ht2' : ((t : Int) = 2) = True := by simp only [eq_iff_iff, iff_true]; omega
      simp (config := { maxSteps := 1000000 }) only [SS, forall_const, yx_nil, yx_true, yx_false, y1_false, y1_true, y2_none, y2_some, y3, tguard, acallee, top, tval, fput, tor, vsh, vbin, vun, tload, tload2, tload3, tlen2, tlen3, tpick, textr, tbox, one, tbs, tbs2, afill, Go.AM.splice, Int.reduceEq, Int.reduceNeg, Nat.reduceGT, Nat.reduceLT, Nat.reduceLeDiff, Nat.reduceEqDiff, ↓reduceIte, reduceCtorEq, Int.reduceToNat, Int.reduceLE, Int.reduceLT, Nat.reduceAdd, Nat.reduceMul, hab', Bool.not_false, ff_4]
      repeat (first | apply WKD.seq | apply WKD.block | apply WKD.skipSeq | apply WKD.skipBlock | apply WKD.retSeq | apply WKD.retBlock | apply WKD.exitSeq | apply WKD.exitHere | refine WKD.exitOn rfl ?_ | ((first | (refine WKD.rgn ?_ ?_; kernel_rfl) | refine AtCallY.now ?_); simp (config := { maxSteps := 1000000 }) only [SS, forall_const, yx_nil, yx_true, yx_false, y1_false, y1_true, y2_none, y2_some, y3, tguard, acallee, top, tval, fput, tor, vsh, vbin, vun, tload, tload2, tload3, tlen2, tlen3, tpick, textr, tbox, one, tbs, tbs2, afill, Go.AM.splice, Int.reduceEq, Int.reduceNeg, Nat.reduceGT, Nat.reduceLT, Nat.reduceLeDiff, Nat.reduceEqDiff, ↓reduceIte, reduceCtorEq, Int.reduceToNat, Int.reduceLE, Int.reduceLT, Nat.reduceAdd, Nat.reduceMul, ht2', decide_true, ff_4]) | (refine WKD.condT ?_ ?_; focus (simp only [ev_tmp, ev_const, fset_apply, Nat.reduceEqDiff, ↓reduceIte, decide_true, decide_false, ht2', decide_true, ff_4]; done)) | (refine WKD.condF ?_ ?_; focus (simp only [ev_tmp, ev_const, fset_apply, Nat.reduceEqDiff, ↓reduceIte, decide_true, decide_false, ht2', decide_true, ff_4]; done)))
      (first | refine WKD.retNil ⟨Or.inr rfl, _, rfl, ?_, ?_⟩ | refine WKD.skipNil ⟨Or.inl rfl, _, rfl, ?_, ?_⟩)
      · exact kk9
      · simp only [packed, fset_apply, Nat.reduceEqDiff, ↓reduceIte, List.getD_cons_zero, List.getD_cons_succ, ff_4]
end Go.Proofs.Ytemkglelfeidhaa

namespace Go.Proofs.Ytemkglelfeidhaa
open Go.AM
set_option maxRecDepth 100000
theorem und_26 : Try.prog.underlying 26 = some (.slice 3) := by kernel_rfl
theorem und_22 : Try.prog.underlying 22 = some (.slice 9) := by kernel_rfl
theorem und_23 : Try.prog.underlying 23 = some (.slice 49) := by kernel_rfl
theorem und_25 : ∃ f1 f2 f3 : Field, Try.prog.underlying 25 = some (.struct #[f1, f2, f3]) ∧ f1.type = 22 ∧ f1.offset = 0 ∧ f2.type = 22 ∧ f2.offset = 1 ∧ f3.type = 23 ∧ f3.offset = 2 :=
  ⟨{ name := "Terms", type := 22, offset := 0, embedded := false, tag := "", pkgPath := "", byteOffset := 0 }, { name := "Vars", type := 22, offset := 1, embedded := false, tag := "", pkgPath := "", byteOffset := 24 },
    { name := "Rules", type := 23, offset := 2, embedded := false, tag := "", pkgPath := "", byteOffset := 48 }, by kernel_rfl, rfl, rfl, rfl, rfl, rfl, rfl⟩
theorem und_49 : ∃ f1 f2 f3 : Field, Try.prog.underlying 49 = some (.struct #[f1, f2, f3]) ∧ f1.type = 3 ∧ f1.offset = 0 ∧ f2.type = 26 ∧ f2.offset = 1 ∧ f3.type = 47 ∧ f3.offset = 2 :=
  ⟨{ name := "Left", type := 3, offset := 0, embedded := false, tag := "", pkgPath := "", byteOffset := 0 }, { name := "Right", type := 26, offset := 1, embedded := false, tag := "", pkgPath := "", byteOffset := 8 },
    { name := "Weight", type := 47, offset := 2, embedded := false, tag := "", pkgPath := "", byteOffset := 32 }, by kernel_rfl, rfl, rfl, rfl, rfl, rfl, rfl⟩
theorem gramT : GramT Try.prog 25 49 3 9 22 23 26 47 := ⟨und_25, und_49, und_3, und_9, und_22, und_23, und_26, und_47, csz_3, csz_9, csz_22, csz_23, csz_26, csz_47, csz_49, csz_25⟩
theorem own : ownKnob Try.prog.godebug = none := by kernel_rfl
theorem laid : laidOutB Try.prog = true := by kernel_rfl
theorem plain_all : ([25, 3, 26].all fun t => plainT Try.prog 10 t && Try.prog.readableRec t && decide (t < Try.prog.types.size)) = true := by kernel_rfl
theorem plain_of {t : TypeId} (h : t ∈ [25, 3, 26]) : plainT Try.prog 10 t = true ∧ Try.prog.readableRec t = true ∧ t < Try.prog.types.size := by
  have := List.all_eq_true.1 plain_all t h
  simp only [Bool.and_eq_true, decide_eq_true_eq] at this
  exact ⟨this.1.1, this.1.2, this.2⟩
end Go.Proofs.Ytemkglelfeidhaa
