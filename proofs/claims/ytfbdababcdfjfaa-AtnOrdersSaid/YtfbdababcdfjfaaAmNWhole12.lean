/- A part of a proof. Its conditions: none. -/
import Derived.Test.YtfbdababcdfjfaaAmNLfRight
import Derived.Test.YtfbdababcdfjfaaAmNKpD
import Derived.Test.YtfbdababcdfjfaaAmNKept
import Derived.Test.YtfbdababcdfjfaaAmC
set_option linter.all false
namespace Go.Proofs.Ytfbdababcdfjfaa
open Go.AM
set_option maxRecDepth 100000
def AllUse (g : Gram) : Prop := ∀ r ∈ g.rules, Usd g r.left ∧ ∀ s ∈ r.right, 0 ≤ s → Prd g s
theorem prd_in {g : Gram} (hi : InG g) {v : Int} (h : Prd g v) : 0 ≤ v ∧ v < g.vars.length := by
  cases h with
  | mk i h h1 => exact ⟨hi.left0 _ (List.getElem_mem h), hi.left1 _ (List.getElem_mem h)⟩
theorem hold_of {n : Nat} {p : Int → Prop} (hp : ∀ v, p v → 0 ≤ v ∧ v < n) (v : Int) : hold ((List.range n).map fun i : Nat => @decide (p i) (Classical.propDecidable _)) v ↔ p v := by
  unfold hold
  constructor
  · rintro ⟨h0, h1⟩
    rw [List.getD_eq_getElem?_getD, List.getElem?_map] at h1
    by_cases hl : v.toNat < n
    · rw [List.getElem?_range hl] at h1
      simp only [Option.map_some, Option.getD_some, decide_eq_true_eq] at h1
      rwa [Int.toNat_of_nonneg h0] at h1
    · rw [List.getElem?_eq_none (by simp; omega)] at h1
      simp at h1
  · intro h
    obtain ⟨h0, h1⟩ := hp v h
    refine ⟨h0, ?_⟩
    rw [List.getD_eq_getElem?_getD, List.getElem?_map, List.getElem?_range (by omega)]
    simp only [Option.map_some, Option.getD_some, decide_eq_true_eq]
    rwa [Int.toNat_of_nonneg h0]
theorem kp_all {g : Gram} (hi : InG g) {us ws : List Bool} (hus : ∀ v, hold us v ↔ Usd g v) (hws : ∀ v, hold ws v ↔ Prd g v) {r : GRule} (hr : r ∈ g.rules) (h : kpB us ws r = true) : Usd g r.left ∧ ∀ s ∈ r.right, 0 ≤ s → Prd g s := by
  unfold kpB at h
  rw [Bool.and_eq_true] at h
  refine ⟨(hus _).1 ⟨hi.left0 r hr, h.1⟩, fun s hs h0 => (hws s).1 ((prdB_hold.1 h.2) s hs h0)⟩
set_option maxHeartbeats 8000000 in
theorem whole12_gives {v : Value} {g : Gram} {n : Nat} {H : Heap} (hw : WF n H) (hg : RG H v g) (wg : WG g) :
    Gives Try.prog 8 [v] n H fun v _ _ => ∃ t : Int, v = .int .i64 t ∧ (t = 0 ∨ t = 1 ∧ RightX g ∧ few g = true ∧ AllUse g) := by
  have hg0 := hg
  obtain ⟨pt, pv, pr, rfl, ht, hv, hr⟩ := hg
  refine Gives.of orders ok8 (Nat.le_of_ble_eq_true rfl) ?_
  have k1 := Kp.new n H (.cells (gcells pt pv pr g) 25 true)
  have hb := hset_at H n (.cells (gcells pt pv pr g) 25 true)
  repeat (first | apply WK.seq | apply WK.block | apply WK.skipSeq | apply WK.skipBlock | apply WK.retSeq | apply WK.retBlock | apply WK.exitSeq | apply WK.exitHere | refine WK.exitOn rfl ?_)
  (refine WK.rgn ?_ ?_; kernel_rfl; simp (config := { maxSteps := 1000000 }) only [SS, forall_const, wx, tguard, acallee, top, tval, fput, tor, vsh, vbin, vun, tload, tload2, tload3, tfa, tfa2, tlen2, tlen3, tpick, tbox, one, Int.reduceEq, Int.reduceNeg, Nat.reduceGT, Nat.reduceLT, Nat.reduceLeDiff, Nat.reduceEqDiff, ↓reduceIte, reduceCtorEq, Int.reduceToNat, Int.reduceLE, Int.reduceLT, Nat.reduceAdd, Nat.reduceMul, box_cells, box_one, ff_8])
  generalize hset H n (.cells (gcells pt pv pr g) 25 true) = H1 at *
  have hw1 := k1.wf hw
  have hg1 := hg0.mono hw k1
  repeat (first | apply WK.seq | apply WK.block | apply WK.skipSeq | apply WK.skipBlock | apply WK.retSeq | apply WK.retBlock | apply WK.exitSeq | apply WK.exitHere | refine WK.exitOn rfl ?_ | ((first | (refine WK.rgn ?_ ?_; kernel_rfl) | refine AtCall.now ?_); simp (config := { maxSteps := 1000000 }) only [SS, forall_const, wx, tguard, acallee, top, tval, fput, tor, vsh, vbin, vun, tload, tload2, tload3, tfa, tfa2, tlen2, tlen3, tpick, tbox, one, Int.reduceEq, Int.reduceNeg, Nat.reduceGT, Nat.reduceLT, Nat.reduceLeDiff, Nat.reduceEqDiff, ↓reduceIte, reduceCtorEq, Int.reduceToNat, Int.reduceLE, Int.reduceLT, Nat.reduceAdd, Nat.reduceMul, hb, gc_all, gc_len, ff_8]) | (refine WK.condT ?_ ?_; focus (simp only [ev_tmp, ev_const, fset_apply, Nat.reduceEqDiff, ↓reduceIte, decide_true, decide_false, hb, gc_all, gc_len, ff_8]; done)) | (refine WK.condF ?_ ?_; focus (simp only [ev_tmp, ev_const, fset_apply, Nat.reduceEqDiff, ↓reduceIte, decide_true, decide_false, hb, gc_all, gc_len, ff_8]; done)))
  refine AtCall.by (few_gives hw1 hg1 wg) ?_
  rintro v n2 H2 k2 rfl
  have hw2 := k2.wf hw1
  have hle2 := k2.le
  have hb2 := (k2.keep n (by omega)).trans hb
  have hg2 := hg1.mono hw1 k2
  have k12 := k1.trans k2
  cases hf : few g with
  | false =>
    simp (config := { maxSteps := 1000000 }) only [SS, forall_const, wx, tguard, acallee, top, tval, fput, tor, vsh, vbin, vun, tload, tload2, tload3, tfa, tfa2, tlen2, tlen3, tpick, tbox, one, Int.reduceEq, Int.reduceNeg, Nat.reduceGT, Nat.reduceLT, Nat.reduceLeDiff, Nat.reduceEqDiff, ↓reduceIte, reduceCtorEq, Int.reduceToNat, Int.reduceLE, Int.reduceLT, Nat.reduceAdd, Nat.reduceMul, Bool.not_false, ff_8]
    repeat (first | apply WK.seq | apply WK.block | apply WK.skipSeq | apply WK.skipBlock | apply WK.retSeq | apply WK.retBlock | apply WK.exitSeq | apply WK.exitHere | refine WK.exitOn rfl ?_ | ((first | (refine WK.rgn ?_ ?_; kernel_rfl) | refine AtCall.now ?_); simp (config := { maxSteps := 1000000 }) only [SS, forall_const, wx, tguard, acallee, top, tval, fput, tor, vsh, vbin, vun, tload, tload2, tload3, tfa, tfa2, tlen2, tlen3, tpick, tbox, one, Int.reduceEq, Int.reduceNeg, Nat.reduceGT, Nat.reduceLT, Nat.reduceLeDiff, Nat.reduceEqDiff, ↓reduceIte, reduceCtorEq, Int.reduceToNat, Int.reduceLE, Int.reduceLT, Nat.reduceAdd, Nat.reduceMul, ff_8]) | (refine WK.condT ?_ ?_; focus (simp only [ev_tmp, ev_const, fset_apply, Nat.reduceEqDiff, ↓reduceIte, decide_true, decide_false, ff_8]; done)) | (refine WK.condF ?_ ?_; focus (simp only [ev_tmp, ev_const, fset_apply, Nat.reduceEqDiff, ↓reduceIte, decide_true, decide_false, ff_8]; done)))
    (first | refine WK.retNil ⟨Or.inr rfl, _, rfl, ?_, ?_⟩ | refine WK.skipNil ⟨Or.inl rfl, _, rfl, ?_, ?_⟩)
    · exact k12.keep
    · simp only [packed, fset_apply, Nat.reduceEqDiff, ↓reduceIte, List.getD_cons_zero, List.getD_cons_succ, ff_8]
      exact ⟨0, rfl, rfl⟩
  | true =>
    simp (config := { maxSteps := 1000000 }) only [SS, forall_const, wx, tguard, acallee, top, tval, fput, tor, vsh, vbin, vun, tload, tload2, tload3, tfa, tfa2, tlen2, tlen3, tpick, tbox, one, Int.reduceEq, Int.reduceNeg, Nat.reduceGT, Nat.reduceLT, Nat.reduceLeDiff, Nat.reduceEqDiff, ↓reduceIte, reduceCtorEq, Int.reduceToNat, Int.reduceLE, Int.reduceLT, Nat.reduceAdd, Nat.reduceMul, Bool.not_true, hb2, gc_all, gc_len, ff_8]
    refine AtCall.by (rightX_gives hw2 hg2 wg) ?_
    rintro v n3 H3 k3 ⟨t, rfl, hok⟩
    have hw3 := k3.wf hw2
    have hle3 := k3.le
    have hb3 := (k3.keep n (by omega)).trans hb2
    have hg3 := hg2.mono hw2 k3
    have k13 := k12.trans k3
    cases t with
    | false =>
      simp (config := { maxSteps := 1000000 }) only [SS, forall_const, wx, tguard, acallee, top, tval, fput, tor, vsh, vbin, vun, tload, tload2, tload3, tfa, tfa2, tlen2, tlen3, tpick, tbox, one, Int.reduceEq, Int.reduceNeg, Nat.reduceGT, Nat.reduceLT, Nat.reduceLeDiff, Nat.reduceEqDiff, ↓reduceIte, reduceCtorEq, Int.reduceToNat, Int.reduceLE, Int.reduceLT, Nat.reduceAdd, Nat.reduceMul, Bool.not_false, ff_8]
      repeat (first | apply WK.seq | apply WK.block | apply WK.skipSeq | apply WK.skipBlock | apply WK.retSeq | apply WK.retBlock | apply WK.exitSeq | apply WK.exitHere | refine WK.exitOn rfl ?_ | ((first | (refine WK.rgn ?_ ?_; kernel_rfl) | refine AtCall.now ?_); simp (config := { maxSteps := 1000000 }) only [SS, forall_const, wx, tguard, acallee, top, tval, fput, tor, vsh, vbin, vun, tload, tload2, tload3, tfa, tfa2, tlen2, tlen3, tpick, tbox, one, Int.reduceEq, Int.reduceNeg, Nat.reduceGT, Nat.reduceLT, Nat.reduceLeDiff, Nat.reduceEqDiff, ↓reduceIte, reduceCtorEq, Int.reduceToNat, Int.reduceLE, Int.reduceLT, Nat.reduceAdd, Nat.reduceMul, ff_8]) | (refine WK.condT ?_ ?_; focus (simp only [ev_tmp, ev_const, fset_apply, Nat.reduceEqDiff, ↓reduceIte, decide_true, decide_false, ff_8]; done)) | (refine WK.condF ?_ ?_; focus (simp only [ev_tmp, ev_const, fset_apply, Nat.reduceEqDiff, ↓reduceIte, decide_true, decide_false, ff_8]; done)))
      (first | refine WK.retNil ⟨Or.inr rfl, _, rfl, ?_, ?_⟩ | refine WK.skipNil ⟨Or.inl rfl, _, rfl, ?_, ?_⟩)
      · exact k13.keep
      · simp only [packed, fset_apply, Nat.reduceEqDiff, ↓reduceIte, List.getD_cons_zero, List.getD_cons_succ, ff_8]
        exact ⟨0, rfl, .inl rfl⟩
    | true =>
      have okx := hok rfl
      have ok := okx.toRightOK
      have hi := ok.inG
      have hrl := ok.rules
      have hus := hold_of (n := g.vars.length) (p := Usd g) fun v h => prd_in hi h.prd
      have hws := hold_of (n := g.vars.length) (p := Prd g) fun v h => prd_in hi h
      generalize hU : ((List.range g.vars.length).map fun i : Nat => @decide (Usd g i) (Classical.propDecidable _)) = us at *
      generalize hW : ((List.range g.vars.length).map fun i : Nat => @decide (Prd g i) (Classical.propDecidable _)) = ws at *
      have hul : us.length = g.vars.length := by rw [← hU]; simp
      have hwl : ws.length = g.vars.length := by rw [← hW]; simp
      simp (config := { maxSteps := 1000000 }) only [SS, forall_const, wx, tguard, acallee, top, tval, fput, tor, vsh, vbin, vun, tload, tload2, tload3, tfa, tfa2, tlen2, tlen3, tpick, tbox, one, Int.reduceEq, Int.reduceNeg, Nat.reduceGT, Nat.reduceLT, Nat.reduceLeDiff, Nat.reduceEqDiff, ↓reduceIte, reduceCtorEq, Int.reduceToNat, Int.reduceLE, Int.reduceLT, Nat.reduceAdd, Nat.reduceMul, Bool.not_true, ff_8]
      repeat (first | apply WK.seq | apply WK.block | apply WK.skipSeq | apply WK.skipBlock | apply WK.retSeq | apply WK.retBlock | apply WK.exitSeq | apply WK.exitHere | refine WK.exitOn rfl ?_ | ((first | (refine WK.rgn ?_ ?_; kernel_rfl) | refine AtCall.now ?_); simp (config := { maxSteps := 1000000 }) only [SS, forall_const, wx, tguard, acallee, top, tval, fput, tor, vsh, vbin, vun, tload, tload2, tload3, tfa, tfa2, tlen2, tlen3, tpick, tbox, one, Int.reduceEq, Int.reduceNeg, Nat.reduceGT, Nat.reduceLT, Nat.reduceLeDiff, Nat.reduceEqDiff, ↓reduceIte, reduceCtorEq, Int.reduceToNat, Int.reduceLE, Int.reduceLT, Nat.reduceAdd, Nat.reduceMul, hb3, gc_2, ff_8]) | (refine WK.condT ?_ ?_; focus (simp only [ev_tmp, ev_const, fset_apply, Nat.reduceEqDiff, ↓reduceIte, decide_true, decide_false, hb3, gc_2, ff_8]; done)) | (refine WK.condF ?_ ?_; focus (simp only [ev_tmp, ev_const, fset_apply, Nat.reduceEqDiff, ↓reduceIte, decide_true, decide_false, hb3, gc_2, ff_8]; done)))
      refine WK.loop (fun kk s => ∃ i : Nat, Kp (n + 1) H1 s.n s.H ∧ s.f 1 = .pointer (some ⟨n, 0, none⟩) ∧ s.f 14 = .int .i64 (g.rules.length : Nat) ∧ s.f 15 = .int .i64 (i : Nat) ∧ i ≤ g.rules.length ∧ (∀ r ∈ g.rules.take i, kpB us ws r = true) ∧ kk = g.rules.length - i) g.rules.length ?_ ?_
      · exact ⟨0, k2.trans k3, rfl, rfl, rfl, Nat.zero_le _, fun r hr => by simp at hr, rfl⟩
      clear k3 k13 hb3 hg3 hw3 hle3
      rintro kk ⟨f, n3, H3⟩ ⟨i, k3, f1, f14, f15, hil, hkp, rfl⟩ ih
      simp only at k3 f1 f14 f15 ih
      have hw3 := k3.wf hw1
      have hle3 := k3.le
      have hb3 := (k3.keep n (by omega)).trans hb
      have hg3 := hg1.mono hw1 k3
      by_cases hlt : i < g.rules.length
      · have hiw : IntKind.i64.wrap ((i : Int) + 1) = ((i + 1 : Nat) : Int) := by rw [wrap_in (by omega) (by omega)]; rfl
        repeat (first | apply WK.seq | apply WK.block | apply WK.skipSeq | apply WK.skipBlock | apply WK.retSeq | apply WK.retBlock | apply WK.exitSeq | apply WK.exitHere | refine WK.exitOn rfl ?_ | ((first | (refine WK.rgn ?_ ?_; kernel_rfl) | refine AtCall.now ?_); simp (config := { maxSteps := 1000000 }) only [SS, forall_const, wx, tguard, acallee, top, tval, fput, tor, vsh, vbin, vun, tload, tload2, tload3, tfa, tfa2, tlen2, tlen3, tpick, tbox, one, Int.reduceEq, Int.reduceNeg, Nat.reduceGT, Nat.reduceLT, Nat.reduceLeDiff, Nat.reduceEqDiff, ↓reduceIte, reduceCtorEq, Int.reduceToNat, Int.reduceLE, Int.reduceLT, Nat.reduceAdd, Nat.reduceMul, f1, f14, f15, hlt, hb3, gc_all, gc_len, ff_8]) | (refine WK.condT ?_ ?_; focus (simp only [ev_tmp, ev_const, fset_apply, Nat.reduceEqDiff, ↓reduceIte, decide_true, decide_false, f1, f14, f15, hlt, hb3, gc_all, gc_len, ff_8]; done)) | (refine WK.condF ?_ ?_; focus (simp only [ev_tmp, ev_const, fset_apply, Nat.reduceEqDiff, ↓reduceIte, decide_true, decide_false, f1, f14, f15, hlt, hb3, gc_all, gc_len, ff_8]; done)))
        refine AtCall.by (kept_gives hw3 hg3 wg ok hlt hul hwl hus hws) ?_
        rintro v n4 H4 k4 rfl
        cases hk : kpB us ws g.rules[i] with
        | false =>
          simp (config := { maxSteps := 1000000 }) only [SS, forall_const, wx, tguard, acallee, top, tval, fput, tor, vsh, vbin, vun, tload, tload2, tload3, tfa, tfa2, tlen2, tlen3, tpick, tbox, one, Int.reduceEq, Int.reduceNeg, Nat.reduceGT, Nat.reduceLT, Nat.reduceLeDiff, Nat.reduceEqDiff, ↓reduceIte, reduceCtorEq, Int.reduceToNat, Int.reduceLE, Int.reduceLT, Nat.reduceAdd, Nat.reduceMul, Bool.not_false, ff_8]
          repeat (first | apply WK.seq | apply WK.block | apply WK.skipSeq | apply WK.skipBlock | apply WK.retSeq | apply WK.retBlock | apply WK.exitSeq | apply WK.exitHere | refine WK.exitOn rfl ?_ | ((first | (refine WK.rgn ?_ ?_; kernel_rfl) | refine AtCall.now ?_); simp (config := { maxSteps := 1000000 }) only [SS, forall_const, wx, tguard, acallee, top, tval, fput, tor, vsh, vbin, vun, tload, tload2, tload3, tfa, tfa2, tlen2, tlen3, tpick, tbox, one, Int.reduceEq, Int.reduceNeg, Nat.reduceGT, Nat.reduceLT, Nat.reduceLeDiff, Nat.reduceEqDiff, ↓reduceIte, reduceCtorEq, Int.reduceToNat, Int.reduceLE, Int.reduceLT, Nat.reduceAdd, Nat.reduceMul, ff_8]) | (refine WK.condT ?_ ?_; focus (simp only [ev_tmp, ev_const, fset_apply, Nat.reduceEqDiff, ↓reduceIte, decide_true, decide_false, ff_8]; done)) | (refine WK.condF ?_ ?_; focus (simp only [ev_tmp, ev_const, fset_apply, Nat.reduceEqDiff, ↓reduceIte, decide_true, decide_false, ff_8]; done)))
          (first | refine WK.retNil ⟨Or.inr rfl, _, rfl, ?_, ?_⟩ | refine WK.skipNil ⟨Or.inl rfl, _, rfl, ?_, ?_⟩)
          · exact (k1.trans (k3.trans k4)).keep
          · simp only [packed, fset_apply, Nat.reduceEqDiff, ↓reduceIte, List.getD_cons_zero, List.getD_cons_succ, ff_8]
            exact ⟨0, rfl, .inl rfl⟩
        | true =>
          simp (config := { maxSteps := 1000000 }) only [SS, forall_const, wx, tguard, acallee, top, tval, fput, tor, vsh, vbin, vun, tload, tload2, tload3, tfa, tfa2, tlen2, tlen3, tpick, tbox, one, Int.reduceEq, Int.reduceNeg, Nat.reduceGT, Nat.reduceLT, Nat.reduceLeDiff, Nat.reduceEqDiff, ↓reduceIte, reduceCtorEq, Int.reduceToNat, Int.reduceLE, Int.reduceLT, Nat.reduceAdd, Nat.reduceMul, Bool.not_true, ff_8]
          repeat (first | apply WK.seq | apply WK.block | apply WK.skipSeq | apply WK.skipBlock | apply WK.retSeq | apply WK.retBlock | apply WK.exitSeq | apply WK.exitHere | refine WK.exitOn rfl ?_ | ((first | (refine WK.rgn ?_ ?_; kernel_rfl) | refine AtCall.now ?_); simp (config := { maxSteps := 1000000 }) only [SS, forall_const, wx, tguard, acallee, top, tval, fput, tor, vsh, vbin, vun, tload, tload2, tload3, tfa, tfa2, tlen2, tlen3, tpick, tbox, one, Int.reduceEq, Int.reduceNeg, Nat.reduceGT, Nat.reduceLT, Nat.reduceLeDiff, Nat.reduceEqDiff, ↓reduceIte, reduceCtorEq, Int.reduceToNat, Int.reduceLE, Int.reduceLT, Nat.reduceAdd, Nat.reduceMul, f15, hiw, ff_8]) | (refine WK.condT ?_ ?_; focus (simp only [ev_tmp, ev_const, fset_apply, Nat.reduceEqDiff, ↓reduceIte, decide_true, decide_false, f15, hiw, ff_8]; done)) | (refine WK.condF ?_ ?_; focus (simp only [ev_tmp, ev_const, fset_apply, Nat.reduceEqDiff, ↓reduceIte, decide_true, decide_false, f15, hiw, ff_8]; done)))
          refine ih (g.rules.length - (i + 1)) (by omega) _ ⟨i + 1, k3.trans k4, f1, f14, rfl, hlt, fun r hr => ?_, rfl⟩
          rw [List.take_succ_eq_append_getElem hlt] at hr
          rcases List.mem_append.1 hr with hr | hr
          · exact hkp r hr
          · rw [List.mem_singleton] at hr; rw [hr]; exact hk
      · rw [List.take_of_length_le (by omega)] at hkp
        repeat (first | apply WK.seq | apply WK.block | apply WK.skipSeq | apply WK.skipBlock | apply WK.retSeq | apply WK.retBlock | apply WK.exitSeq | apply WK.exitHere | refine WK.exitOn rfl ?_ | ((first | (refine WK.rgn ?_ ?_; kernel_rfl) | refine AtCall.now ?_); simp (config := { maxSteps := 1000000 }) only [SS, forall_const, wx, tguard, acallee, top, tval, fput, tor, vsh, vbin, vun, tload, tload2, tload3, tfa, tfa2, tlen2, tlen3, tpick, tbox, one, Int.reduceEq, Int.reduceNeg, Nat.reduceGT, Nat.reduceLT, Nat.reduceLeDiff, Nat.reduceEqDiff, ↓reduceIte, reduceCtorEq, Int.reduceToNat, Int.reduceLE, Int.reduceLT, Nat.reduceAdd, Nat.reduceMul, f1, f14, f15, hlt, ff_8]) | (refine WK.condT ?_ ?_; focus (simp only [ev_tmp, ev_const, fset_apply, Nat.reduceEqDiff, ↓reduceIte, decide_true, decide_false, f1, f14, f15, hlt, ff_8]; done)) | (refine WK.condF ?_ ?_; focus (simp only [ev_tmp, ev_const, fset_apply, Nat.reduceEqDiff, ↓reduceIte, decide_true, decide_false, f1, f14, f15, hlt, ff_8]; done)))
        (first | refine WK.retNil ⟨Or.inr rfl, _, rfl, ?_, ?_⟩ | refine WK.skipNil ⟨Or.inl rfl, _, rfl, ?_, ?_⟩)
        · exact (k1.trans k3).keep
        · simp only [packed, fset_apply, Nat.reduceEqDiff, ↓reduceIte, List.getD_cons_zero, List.getD_cons_succ, ff_8]
          exact ⟨1, rfl, .inr ⟨rfl, okx, fun r hr => kp_all hi hus hws hr (hkp r hr)⟩⟩
end Go.Proofs.Ytfbdababcdfjfaa
