/- A part of a proof. Its conditions: none. -/
import Derived.Test.YtemkglelfeidhaaAmJFoDerW
import Derived.Test.YtemkglelfeidhaaAmJFacts
import Derived.Test.YtemkglelfeidhaaAmC
set_option linter.all false
namespace Go.Proofs.Ytemkglelfeidhaa
open Go.AM Go.AM.Fo Go.RowKit
set_option maxRecDepth 100000
set_option maxHeartbeats 16000000 in
theorem countsLaw_gives {v : Value} {g : Gram} {pa : Option Addr} {w : List Int} {n : Nat} {H : Heap} (hw : WF n H) (hg : RG H v g) (wg : WG g) (hro : AllRO H) (hq : RS (Value.int .i64) H pa w) :
    GivesD Try.prog 3 [v, .slice pa w.length w.length] n H fun v _ _ => v = .bool true := by
  have hg0 := hg
  obtain ⟨pt, pv, pr, rfl, ht, hv, hr⟩ := hg
  have hqf := RF.of hq hro
  refine GivesD.of orders ok3 (Nat.le_of_ble_eq_true rfl) ?_
  have k1 := Kp.new n H (.cells (gcells pt pv pr g) 25 true)
  have hb1 := hset_at H n (.cells (gcells pt pv pr g) 25 true)
  repeat (first | apply WKD.seq | apply WKD.block | apply WKD.skipSeq | apply WKD.skipBlock | apply WKD.retSeq | apply WKD.retBlock | apply WKD.exitSeq | apply WKD.exitHere | refine WKD.exitOn rfl ?_)
  (refine WKD.rgn ?_ ?_; kernel_rfl; simp (config := {maxSteps:=999999}) only [SS, qx15, forall_const, yx_nil, yx_true, yx_false, y1_false, y1_true, y2_none, y2_some, y3, vun, simprocAttr, abox, box_cells, box_one, ff_3])
  generalize hset H n (.cells (gcells pt pv pr g) 25 true) = H1 at *
  have hw1 := k1.wf hw
  repeat (first | apply WKD.seq | apply WKD.block | apply WKD.skipSeq | apply WKD.skipBlock | apply WKD.retSeq | apply WKD.retBlock | apply WKD.exitSeq | apply WKD.exitHere | refine WKD.exitOn rfl ?_ | ((first | (refine WKD.rgn ?_ ?_; kernel_rfl) | refine AtCallY.now ?_); simp (config := {maxSteps:=999999}) only [SS, qx15, forall_const, yx_nil, yx_true, yx_false, y1_false, y1_true, y2_none, y2_some, y3, vun, simprocAttr, ff_3]) | (refine WKD.condT ?_ ?_; focus (simp only [ev_tmp, ev_const, fset_apply, Nat.reduceEqDiff, ↓reduceIte, decide_true, decide_false, ff_3]; done)) | (refine WKD.condF ?_ ?_; focus (simp only [ev_tmp, ev_const, fset_apply, Nat.reduceEqDiff, ↓reduceIte, decide_true, decide_false, ff_3]; done)))
  refine AtCallY.byD (alive_gives hw1) ?_
  rintro v n2 H2 k2 rfl
  have hw2 := k2.wf hw1
  have hle1 := k1.le
  have hle2 := k2.le
  have hb2 := (k2.keep n (by omega)).trans hb1
  have hg2 := (hg0.mono hw k1).mono hw1 k2
  simp (config := {maxSteps:=999999}) only [SS, qx15, forall_const, yx_nil, yx_true, yx_false, y1_false, y1_true, y2_none, y2_some, y3, vun, simprocAttr, ff_3]
  repeat (first | apply WKD.seq | apply WKD.block | apply WKD.skipSeq | apply WKD.skipBlock | apply WKD.retSeq | apply WKD.retBlock | apply WKD.exitSeq | apply WKD.exitHere | refine WKD.exitOn rfl ?_ | ((first | (refine WKD.rgn ?_ ?_; kernel_rfl) | refine AtCallY.now ?_); simp (config := {maxSteps:=999999}) only [SS, qx15, forall_const, yx_nil, yx_true, yx_false, y1_false, y1_true, y2_none, y2_some, y3, vun, simprocAttr, hb2, gc_all, gc_len, ff_3]) | (refine WKD.condT ?_ ?_; focus (simp only [ev_tmp, ev_const, fset_apply, Nat.reduceEqDiff, ↓reduceIte, decide_true, decide_false, hb2, gc_all, gc_len, ff_3]; done)) | (refine WKD.condF ?_ ?_; focus (simp only [ev_tmp, ev_const, fset_apply, Nat.reduceEqDiff, ↓reduceIte, decide_true, decide_false, hb2, gc_all, gc_len, ff_3]; done)))
  refine AtCallY.by (few_gives hw2 hg2 wg) ?_
  rintro v n3 H3 k3 rfl
  have hw3 := k3.wf hw2
  have hle3 := k3.le
  have hb3 := (k3.keep n (by omega)).trans hb2
  have hg3 := hg2.mono hw2 k3
  have kk3 : ∀ z, z < n → H3 z = H z := fun z hz => (k3.keep z (by omega)).trans ((k2.keep z (by omega)).trans (k1.keep z hz))
  cases hf : few g with
  | false =>
    simp (config := {maxSteps:=999999}) only [SS, qx15, forall_const, yx_nil, yx_true, yx_false, y1_false, y1_true, y2_none, y2_some, y3, vun, simprocAttr, Bool.not_false, ff_3]
    repeat (first | apply WKD.seq | apply WKD.block | apply WKD.skipSeq | apply WKD.skipBlock | apply WKD.retSeq | apply WKD.retBlock | apply WKD.exitSeq | apply WKD.exitHere | refine WKD.exitOn rfl ?_ | ((first | (refine WKD.rgn ?_ ?_; kernel_rfl) | refine AtCallY.now ?_); simp (config := {maxSteps:=999999}) only [SS, qx15, forall_const, yx_nil, yx_true, yx_false, y1_false, y1_true, y2_none, y2_some, y3, vun, simprocAttr, ff_3]) | (refine WKD.condT ?_ ?_; focus (simp only [ev_tmp, ev_const, fset_apply, Nat.reduceEqDiff, ↓reduceIte, decide_true, decide_false, ff_3]; done)) | (refine WKD.condF ?_ ?_; focus (simp only [ev_tmp, ev_const, fset_apply, Nat.reduceEqDiff, ↓reduceIte, decide_true, decide_false, ff_3]; done)))
    (first | refine WKD.retNil ⟨Or.inr rfl, _, rfl, ?_, ?_⟩ | refine WKD.skipNil ⟨Or.inl rfl, _, rfl, ?_, ?_⟩)
    · exact kk3
    · simp only [packed, fset_apply, Nat.reduceEqDiff, ↓reduceIte, List.getD_cons_zero, List.getD_cons_succ, ff_3]
  | true =>
    simp (config := {maxSteps:=999999}) only [SS, qx15, forall_const, yx_nil, yx_true, yx_false, y1_false, y1_true, y2_none, y2_some, y3, vun, simprocAttr, Bool.not_true, hb3, gc_all, gc_len, ff_3]
    refine AtCallY.by (right_gives hw3 hg3 wg) ?_
    rintro v n4 H4 k4 ⟨t, rfl, hok⟩
    have hw4 := k4.wf hw3
    have hle4 := k4.le
    have hb4 := (k4.keep n (by omega)).trans hb3
    have hg4 := hg3.mono hw3 k4
    have kk4 : ∀ z, z < n → H4 z = H z := fun z hz => (k4.keep z (by omega)).trans (kk3 z hz)
    cases t with
    | false =>
      simp (config := {maxSteps:=999999}) only [SS, qx15, forall_const, yx_nil, yx_true, yx_false, y1_false, y1_true, y2_none, y2_some, y3, vun, simprocAttr, Bool.not_false, ff_3]
      repeat (first | apply WKD.seq | apply WKD.block | apply WKD.skipSeq | apply WKD.skipBlock | apply WKD.retSeq | apply WKD.retBlock | apply WKD.exitSeq | apply WKD.exitHere | refine WKD.exitOn rfl ?_ | ((first | (refine WKD.rgn ?_ ?_; kernel_rfl) | refine AtCallY.now ?_); simp (config := {maxSteps:=999999}) only [SS, qx15, forall_const, yx_nil, yx_true, yx_false, y1_false, y1_true, y2_none, y2_some, y3, vun, simprocAttr, ff_3]) | (refine WKD.condT ?_ ?_; focus (simp only [ev_tmp, ev_const, fset_apply, Nat.reduceEqDiff, ↓reduceIte, decide_true, decide_false, ff_3]; done)) | (refine WKD.condF ?_ ?_; focus (simp only [ev_tmp, ev_const, fset_apply, Nat.reduceEqDiff, ↓reduceIte, decide_true, decide_false, ff_3]; done)))
      (first | refine WKD.retNil ⟨Or.inr rfl, _, rfl, ?_, ?_⟩ | refine WKD.skipNil ⟨Or.inl rfl, _, rfl, ?_, ?_⟩)
      · exact kk4
      · simp only [packed, fset_apply, Nat.reduceEqDiff, ↓reduceIte, List.getD_cons_zero, List.getD_cons_succ, ff_3]
    | true =>
      have ok := hok rfl
      by_cases hal : (6 : Int) < (w.length : Int)
      · simp (config := {maxSteps:=999999}) only [SS, qx15, forall_const, yx_nil, yx_true, yx_false, y1_false, y1_true, y2_none, y2_some, y3, vun, simprocAttr, Bool.not_true, hal, decide_true, ff_3]
        repeat (first | apply WKD.seq | apply WKD.block | apply WKD.skipSeq | apply WKD.skipBlock | apply WKD.retSeq | apply WKD.retBlock | apply WKD.exitSeq | apply WKD.exitHere | refine WKD.exitOn rfl ?_ | ((first | (refine WKD.rgn ?_ ?_; kernel_rfl) | refine AtCallY.now ?_); simp (config := {maxSteps:=999999}) only [SS, qx15, forall_const, yx_nil, yx_true, yx_false, y1_false, y1_true, y2_none, y2_some, y3, vun, simprocAttr, ff_3]) | (refine WKD.condT ?_ ?_; focus (simp only [ev_tmp, ev_const, fset_apply, Nat.reduceEqDiff, ↓reduceIte, decide_true, decide_false, ff_3]; done)) | (refine WKD.condF ?_ ?_; focus (simp only [ev_tmp, ev_const, fset_apply, Nat.reduceEqDiff, ↓reduceIte, decide_true, decide_false, ff_3]; done)))
        (first | refine WKD.retNil ⟨Or.inr rfl, _, rfl, ?_, ?_⟩ | refine WKD.skipNil ⟨Or.inl rfl, _, rfl, ?_, ?_⟩)
        · exact kk4
        · simp only [packed, fset_apply, Nat.reduceEqDiff, ↓reduceIte, List.getD_cons_zero, List.getD_cons_succ, ff_3]
      have sg := ok_sgm ok hf
      have kA := k1.trans (k2.trans (k3.trans k4))
      simp (config := {maxSteps:=999999}) only [SS, qx15, forall_const, yx_nil, yx_true, yx_false, y1_false, y1_true, y2_none, y2_some, y3, vun, simprocAttr, Bool.not_true, hal, decide_true, decide_false, ff_3]
      repeat (first | apply WKD.seq | apply WKD.block | apply WKD.skipSeq | apply WKD.skipBlock | apply WKD.retSeq | apply WKD.retBlock | apply WKD.exitSeq | apply WKD.exitHere | refine WKD.exitOn rfl ?_ | ((first | (refine WKD.rgn ?_ ?_; kernel_rfl) | refine AtCallY.now ?_); simp (config := {maxSteps:=999999}) only [SS, qx15, forall_const, yx_nil, yx_true, yx_false, y1_false, y1_true, y2_none, y2_some, y3, vun, simprocAttr, hb4, gc_all, gc_len, ff_3]) | (refine WKD.condT ?_ ?_; focus (simp only [ev_tmp, ev_const, fset_apply, Nat.reduceEqDiff, ↓reduceIte, decide_true, decide_false, hb4, gc_all, gc_len, ff_3]; done)) | (refine WKD.condF ?_ ?_; focus (simp only [ev_tmp, ev_const, fset_apply, Nat.reduceEqDiff, ↓reduceIte, decide_true, decide_false, hb4, gc_all, gc_len, ff_3]; done)))
      refine AtCallY.by (derivs_gives hw4 hg4 wg ok hf (hqf.mono hw kA) (by omega)) ?_
      rintro v n5 H5 k5 ⟨out, zo, all, rfl, hol, hond, hod, hoa⟩
      have hw5 := k5.wf hw4
      have hle4 := kA.le
      have hb5 := (k5.keep n (by omega)).trans hb4
      have hr5 := hr.mono hw (kA.trans k5)
      simp (config := {maxSteps:=999999}) only [SS, qx15, forall_const, yx_nil, yx_true, yx_false, y1_false, y1_true, y2_none, y2_some, y3, vun, simprocAttr, ff_3]
      repeat (first | apply WKD.seq | apply WKD.block | apply WKD.skipSeq | apply WKD.skipBlock | apply WKD.retSeq | apply WKD.retBlock | apply WKD.exitSeq | apply WKD.exitHere | refine WKD.exitOn rfl ?_ | ((first | (refine WKD.rgn ?_ ?_; kernel_rfl) | refine AtCallY.now ?_); simp (config := {maxSteps:=999999}) only [SS, qx15, forall_const, yx_nil, yx_true, yx_false, y1_false, y1_true, y2_none, y2_some, y3, vun, simprocAttr, hb5, gc_all, gc_len, ff_3]) | (refine WKD.condT ?_ ?_; focus (simp only [ev_tmp, ev_const, fset_apply, Nat.reduceEqDiff, ↓reduceIte, decide_true, decide_false, hb5, gc_all, gc_len, ff_3]; done)) | (refine WKD.condF ?_ ?_; focus (simp only [ev_tmp, ev_const, fset_apply, Nat.reduceEqDiff, ↓reduceIte, decide_true, decide_false, hb5, gc_all, gc_len, ff_3]; done)))
      refine AtCallY.byD (trees_gives (pt := pt) (pv := pv) (pr := pr) (g := g) hw5 hr5 (hq.mono hw (kA.trans k5)) sg (by unfold maxL; omega)) ?_
      rintro v n6 H6 k6 ⟨t, rfl, _, htn⟩
      have htn := htn (by omega)
      obtain ⟨ht1, ht2⟩ := htn.min hod hond
      have hta : all = true → t = out.length := fun h => htn.all hod hond hol (hoa h)
      have kF := kA.trans (k5.trans k6)
      have m0 : ((2 : Int) < (out.length : Int)) = False := by simp only [eq_iff_iff, iff_false]; omega
      have m1 : ((out.length : Int) ≤ (t : Int)) = True := by simp only [eq_iff_iff, iff_true]; omega
      have m2 : ((0 : Int) ≤ (t : Int)) = True := by simp only [eq_iff_iff, iff_true]; omega
      have m3 : ((t : Int) ≤ 2) = True := by simp only [eq_iff_iff, iff_true]; omega
      cases all with
      | false =>
        simp (config := {maxSteps:=999999}) only [SS, qx15, forall_const, yx_nil, yx_true, yx_false, y1_false, y1_true, y2_none, y2_some, y3, vun, simprocAttr, ff_3]
        repeat (first | apply WKD.seq | apply WKD.block | apply WKD.skipSeq | apply WKD.skipBlock | apply WKD.retSeq | apply WKD.retBlock | apply WKD.exitSeq | apply WKD.exitHere | refine WKD.exitOn rfl ?_ | ((first | (refine WKD.rgn ?_ ?_; kernel_rfl) | refine AtCallY.now ?_); simp (config := {maxSteps:=999999}) only [SS, qx15, forall_const, yx_nil, yx_true, yx_false, y1_false, y1_true, y2_none, y2_some, y3, vun, simprocAttr, aop_min, tmm, m0, m1, m2, m3, Bool.false_eq_true, Bool.not_false, decide_true, ff_3]) | (refine WKD.condT ?_ ?_; focus (simp only [ev_tmp, ev_const, fset_apply, Nat.reduceEqDiff, ↓reduceIte, decide_true, decide_false, aop_min, tmm, m0, m1, m2, m3, Bool.false_eq_true, Bool.not_false, decide_true, ff_3]; done)) | (refine WKD.condF ?_ ?_; focus (simp only [ev_tmp, ev_const, fset_apply, Nat.reduceEqDiff, ↓reduceIte, decide_true, decide_false, aop_min, tmm, m0, m1, m2, m3, Bool.false_eq_true, Bool.not_false, decide_true, ff_3]; done)))
        (first | refine WKD.retNil ⟨Or.inr rfl, _, rfl, ?_, ?_⟩ | refine WKD.skipNil ⟨Or.inl rfl, _, rfl, ?_, ?_⟩)
        · exact kF.keep
        · simp only [packed, fset_apply, Nat.reduceEqDiff, ↓reduceIte, List.getD_cons_zero, List.getD_cons_succ, ff_3]
      | true =>
        have m4 : ((t : Int) = (out.length : Int)) = True := by simp only [eq_iff_iff, iff_true]; have := hta rfl; omega
        simp (config := {maxSteps:=999999}) only [SS, qx15, forall_const, yx_nil, yx_true, yx_false, y1_false, y1_true, y2_none, y2_some, y3, vun, simprocAttr, ff_3]
        repeat (first | apply WKD.seq | apply WKD.block | apply WKD.skipSeq | apply WKD.skipBlock | apply WKD.retSeq | apply WKD.retBlock | apply WKD.exitSeq | apply WKD.exitHere | refine WKD.exitOn rfl ?_ | ((first | (refine WKD.rgn ?_ ?_; kernel_rfl) | refine AtCallY.now ?_); simp (config := {maxSteps:=999999}) only [SS, qx15, forall_const, yx_nil, yx_true, yx_false, y1_false, y1_true, y2_none, y2_some, y3, vun, simprocAttr, aop_min, tmm, m0, m1, m2, m3, m4, Bool.false_eq_true, Bool.not_true, decide_true, ff_3]) | (refine WKD.condT ?_ ?_; focus (simp only [ev_tmp, ev_const, fset_apply, Nat.reduceEqDiff, ↓reduceIte, decide_true, decide_false, aop_min, tmm, m0, m1, m2, m3, m4, Bool.false_eq_true, Bool.not_true, decide_true, ff_3]; done)) | (refine WKD.condF ?_ ?_; focus (simp only [ev_tmp, ev_const, fset_apply, Nat.reduceEqDiff, ↓reduceIte, decide_true, decide_false, aop_min, tmm, m0, m1, m2, m3, m4, Bool.false_eq_true, Bool.not_true, decide_true, ff_3]; done)))
        (first | refine WKD.retNil ⟨Or.inr rfl, _, rfl, ?_, ?_⟩ | refine WKD.skipNil ⟨Or.inl rfl, _, rfl, ?_, ?_⟩)
        · exact kF.keep
        · simp only [packed, fset_apply, Nat.reduceEqDiff, ↓reduceIte, List.getD_cons_zero, List.getD_cons_succ, ff_3]
end Go.Proofs.Ytemkglelfeidhaa

namespace Go.Proofs.Ytemkglelfeidhaa
open Go.AM
set_option maxRecDepth 100000
theorem und_26 : Try.prog.underlying 26 = some (.slice 3) := by kernel_rfl
theorem und_22 : Try.prog.underlying 22 = some (.slice 9) := by kernel_rfl
theorem und_23 : Try.prog.underlying 23 = some (.slice 49) := by kernel_rfl
theorem und_25 : ∃ f1 f2 f3 : Field, Try.prog.underlying 25 = some (.struct #[f1, f2, f3]) ∧ f1.type = 22 ∧ f1.offset = 0 ∧ f2.type = 22 ∧ f2.offset = 1 ∧ f3.type = 23 ∧ f3.offset = 2 :=
  ⟨{ name := "Terms", type := 22, offset := 0, embedded := false, tag := "", pkgPath := "", byteOffset := 0 }, { name := "Vars", type := 22, offset := 1, embedded := false, tag := "", pkgPath := "", byteOffset := 24 },
    { name := "Rules", type := 23, offset := 2, embedded := false, tag := "", pkgPath := "", byteOffset := 48 }, by kernel_rfl, rfl, rfl, rfl, rfl, rfl, rfl⟩
theorem und_49 : ∃ f1 f2 f3 : Field, Try.prog.underlying 49 = some (.struct #[f1, f2, f3]) ∧ f1.type = 3 ∧ f1.offset = 0 ∧ f2.type = 26 ∧ f2.offset = 1 ∧ f3.type = 47 ∧ f3.offset = 2 :=
  ⟨{ name := "Left", type := 3, offset := 0, embedded := false, tag := "", pkgPath := "", byteOffset := 0 }, { name := "Right", type := 26, offset := 1, embedded := false, tag := "", pkgPath := "", byteOffset := 8 },
    { name := "Weight", type := 47, offset := 2, embedded := false, tag := "", pkgPath := "", byteOffset := 32 }, by kernel_rfl, rfl, rfl, rfl, rfl, rfl, rfl⟩
theorem gramT : GramT Try.prog 25 49 3 9 22 23 26 47 := ⟨und_25, und_49, und_3, und_9, und_22, und_23, und_26, und_47, csz_3, csz_9, csz_22, csz_23, csz_26, csz_47, csz_49, csz_25⟩
theorem own : ownKnob Try.prog.godebug = none := by kernel_rfl
theorem laid : laidOutB Try.prog = true := by kernel_rfl
theorem plain_all : ([25, 3, 26].all fun t => plainT Try.prog 10 t && Try.prog.readableRec t && decide (t < Try.prog.types.size)) = true := by kernel_rfl
theorem plain_of {t : TypeId} (h : t ∈ [25, 3, 26]) : plainT Try.prog 10 t = true ∧ Try.prog.readableRec t = true ∧ t < Try.prog.types.size := by
  have := List.all_eq_true.1 plain_all t h
  simp only [Bool.and_eq_true, decide_eq_true_eq] at this
  exact ⟨this.1.1, this.1.2, this.2⟩
end Go.Proofs.Ytemkglelfeidhaa
