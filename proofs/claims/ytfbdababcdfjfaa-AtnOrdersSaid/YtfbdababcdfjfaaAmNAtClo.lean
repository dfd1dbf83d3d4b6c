/- A part of a proof. Its conditions: none. -/
import Derived.Test.YtfbdababcdfjfaaAmNAtStep
import Derived.Test.YtfbdababcdfjfaaAmNLfCount
import Derived.Test.YtfbdababcdfjfaaAmNAtBin
import Derived.Test.YtfbdababcdfjfaaAmNAtStep2
set_option linter.all false
namespace Go.Proofs.Ytfbdababcdfjfaa
open Go.AM
set_option maxRecDepth 100000
def nextL (g : Gram) (c : Cfg) : Int := if c.rule < 0 then -1 else match g.rules[c.rule.toNat]? with
  | none => -2
  | some r => if c.dot = (r.right.length : Int) then -2 else match r.right[c.dot.toNat]? with
    | none => -2
    | some s => if 0 ≤ s then -2 else -s - 1
set_option maxHeartbeats 8000000 in
theorem next_gives {N nn n cc : Nat} {H0 H : Heap} {x : CA} {pt pv pr : Option Addr} {g : Gram} {cl : List (Option Addr × List (Int × Int))} (hw0 : WF N H0) (k0 : Kp N H0 n H) (ne : NE H0 nn pt pv pr g cc cl) (hi : InG g) (hgl : g.terms.length ≤ 64 ∧ g.vars.length ≤ 64)
    (hlen : ∀ r ∈ g.rules, r.right.length ≤ 24) (hr1 : x.1.rule < g.rules.length) (hd : ∀ r, 0 ≤ x.1.rule → g.rules[x.1.rule.toNat]? = some r → 0 ≤ x.1.dot ∧ x.1.dot ≤ r.right.length) :
    Gives Try.prog 18 [.pointer (some ⟨nn, 0, none⟩), .agg (ccell x).toArray] n H fun v _ _ => v = .int .i64 (nextL g x.1) := by
  have hw := k0.wf hw0
  have hN := k0.le
  refine Gives.of orders ok18 (Nat.le_of_ble_eq_true rfl) ?_
  have v1 : ∀ s, vcells (.agg (ccell s).toArray) = ccell s := fun _ => rfl
  have v2 : ∀ s, (ccell s).all one = true := fun _ => rfl
  have v3 : ∀ s, (ccell s)[1]? = some (.int .i64 s.1.rule) := fun _ => rfl
  have v8 : ∀ s, (ccell s)[2]? = some (.int .i64 s.1.dot) := fun _ => rfl
  have v5 : ∀ s, (ccell s).length = 4 := fun _ => rfl
  have k1 := Kp.new n H (.cells (ccell x) 47 true)
  have hb := hset_at H n (.cells (ccell x) 47 true)
  have k01 := k0.trans k1
  repeat (first | apply WK.seq | apply WK.block | apply WK.skipSeq | apply WK.skipBlock | apply WK.retSeq | apply WK.retBlock | apply WK.exitSeq | apply WK.exitHere | refine WK.exitOn rfl ?_)
  (refine WK.rgn ?_ ?_; kernel_rfl; simp (config := { maxSteps := 1000000 }) only [SS, forall_const, wx, tguard, acallee, top, tval, fput, tor, vsh, vbin, vun, tload, tload2, tload3, tidx, tidx2, tidx3, tfa, tfa2, tlen2, tlen3, tpick, tbox, one, Int.reduceEq, Int.reduceNeg, Nat.reduceGT, Nat.reduceLT, Nat.reduceLeDiff, Nat.reduceEqDiff, ↓reduceIte, reduceCtorEq, Int.reduceToNat, Int.reduceLE, Int.reduceLT, Nat.reduceAdd, Nat.reduceMul, abox, v1, v2, ff_18])
  generalize hset H n (.cells (ccell x) 47 true) = H1 at *
  by_cases hneg : x.1.rule < 0
  · repeat (first | apply WK.seq | apply WK.block | apply WK.skipSeq | apply WK.skipBlock | apply WK.retSeq | apply WK.retBlock | apply WK.exitSeq | apply WK.exitHere | refine WK.exitOn rfl ?_ | ((first | (refine WK.rgn ?_ ?_; kernel_rfl) | refine AtCall.now ?_); simp (config := { maxSteps := 1000000 }) only [SS, forall_const, wx, tguard, acallee, top, tval, fput, tor, vsh, vbin, vun, tload, tload2, tload3, tidx, tidx2, tidx3, tfa, tfa2, tlen2, tlen3, tpick, tbox, one, Int.reduceEq, Int.reduceNeg, Nat.reduceGT, Nat.reduceLT, Nat.reduceLeDiff, Nat.reduceEqDiff, ↓reduceIte, reduceCtorEq, Int.reduceToNat, Int.reduceLE, Int.reduceLT, Nat.reduceAdd, Nat.reduceMul, hb, v3, v5, hneg, ff_18]) | (refine WK.condT ?_ ?_; focus (simp only [ev_tmp, ev_const, fset_apply, Nat.reduceEqDiff, ↓reduceIte, decide_true, decide_false, hb, v3, v5, hneg, ff_18]; done)) | (refine WK.condF ?_ ?_; focus (simp only [ev_tmp, ev_const, fset_apply, Nat.reduceEqDiff, ↓reduceIte, decide_true, decide_false, hb, v3, v5, hneg, ff_18]; done)))
    (first | refine WK.retNil ⟨Or.inr rfl, _, rfl, ?_, ?_⟩ | refine WK.skipNil ⟨Or.inl rfl, _, rfl, ?_, ?_⟩)
    · exact k1.keep
    · simp only [packed, fset_apply, Nat.reduceEqDiff, ↓reduceIte, List.getD_cons_zero, List.getD_cons_succ, ff_18]
      unfold nextL
      rw [if_pos hneg]
  obtain ⟨r, hr⟩ : ∃ r : Nat, x.1.rule = r := ⟨x.1.rule.toNat, by omega⟩
  have hneg' : (((r : Nat) : Int) < 0) = False := eq_false (by omega)
  have hrl : r < g.rules.length := by omega
  have hrg : g.rules[x.1.rule.toNat]? = some g.rules[r] := by rw [hr, Int.toNat_natCast, List.getElem?_eq_getElem hrl]
  obtain ⟨hd0, hd1⟩ := hd _ (by omega) hrg
  have ne1 := ne.mono hw0 k01
  obtain ⟨z, kz, ds, tz, oz, pp, hpr, hz, d0, d1, d2, hpp⟩ := ne1.rls.at hrl
  have hmem := List.getElem_mem hrl
  have hri := hi.right _ hmem
  have hrT := hi.rightT _ hmem
  have hrl24 := hlen _ hmem
  have hnet := ne1.net
  rw [hpr] at hnet
  have hsl : nextL g x.1 = if x.1.dot = (g.rules[r].right.length : Int) then -2 else match g.rules[r].right[x.1.dot.toNat]? with
    | none => -2
    | some s => if 0 ≤ s then -2 else -s - 1 := by
    unfold nextL
    rw [if_neg hneg, hrg]
  rw [hsl]
  generalize g.rules[r] = ru at *
  obtain ⟨dt, hdt⟩ : ∃ dt : Nat, x.1.dot = dt := ⟨x.1.dot.toNat, by omega⟩
  have hd4 : (ccell x)[2]? = some (.int .i64 (dt : Nat)) := by rw [v8, hdt]
  by_cases hend : dt = ru.right.length
  · have hend' : x.1.dot = (ru.right.length : Int) := by omega
    rw [if_pos hend']
    have hend2 : ((dt : Int) = (ru.right.length : Int)) = True := eq_true (by omega)
    repeat (first | apply WK.seq | apply WK.block | apply WK.skipSeq | apply WK.skipBlock | apply WK.retSeq | apply WK.retBlock | apply WK.exitSeq | apply WK.exitHere | refine WK.exitOn rfl ?_ | ((first | (refine WK.rgn ?_ ?_; kernel_rfl) | refine AtCall.now ?_); simp (config := { maxSteps := 1000000 }) only [SS, forall_const, wx, tguard, acallee, top, tval, fput, tor, vsh, vbin, vun, tload, tload2, tload3, tidx, tidx2, tidx3, tfa, tfa2, tlen2, tlen3, tpick, tbox, one, Int.reduceEq, Int.reduceNeg, Nat.reduceGT, Nat.reduceLT, Nat.reduceLeDiff, Nat.reduceEqDiff, ↓reduceIte, reduceCtorEq, Int.reduceToNat, Int.reduceLE, Int.reduceLT, Nat.reduceAdd, Nat.reduceMul, hb, v3, v5, hd4, hnet, hneg', hr, hrl, hz, d1, hend2, aop_nc, tnc, decide_true, ff_18]) | (refine WK.condT ?_ ?_; focus (simp only [ev_tmp, ev_const, fset_apply, Nat.reduceEqDiff, ↓reduceIte, decide_true, decide_false, hb, v3, v5, hd4, hnet, hneg', hr, hrl, hz, d1, hend2, aop_nc, tnc, decide_true, ff_18]; done)) | (refine WK.condF ?_ ?_; focus (simp only [ev_tmp, ev_const, fset_apply, Nat.reduceEqDiff, ↓reduceIte, decide_true, decide_false, hb, v3, v5, hd4, hnet, hneg', hr, hrl, hz, d1, hend2, aop_nc, tnc, decide_true, ff_18]; done)))
    (first | refine WK.retNil ⟨Or.inr rfl, _, rfl, ?_, ?_⟩ | refine WK.skipNil ⟨Or.inl rfl, _, rfl, ?_, ?_⟩)
    · exact k1.keep
    · simp only [packed, fset_apply, Nat.reduceEqDiff, ↓reduceIte, List.getD_cons_zero, List.getD_cons_succ, ff_18]
  · have hend' : ¬ x.1.dot = (ru.right.length : Int) := by omega
    have hdl : dt < ru.right.length := by omega
    obtain ⟨z4, kz4, c4, t4, o4, hp4, hz4, e4⟩ := hpp.at hdl
    rw [if_neg hend', hdt, Int.toNat_natCast, List.getElem?_eq_getElem hdl]
    have hend2 : ((dt : Int) = (ru.right.length : Int)) = False := eq_false (by omega)
    have hsm := List.getElem_mem hdl
    have hsv := hri _ hsm
    have hst := hrT _ hsm
    rw [hp4] at d1
    generalize ru.right[dt] = s at *
    have hnot := bnot_i64 (n := s) (by omega) (by omega)
    repeat (first | apply WK.seq | apply WK.block | apply WK.skipSeq | apply WK.skipBlock | apply WK.retSeq | apply WK.retBlock | apply WK.exitSeq | apply WK.exitHere | refine WK.exitOn rfl ?_ | ((first | (refine WK.rgn ?_ ?_; kernel_rfl) | refine AtCall.now ?_); simp (config := { maxSteps := 1000000 }) only [SS, forall_const, wx, tguard, acallee, top, tval, fput, tor, vsh, vbin, vun, tload, tload2, tload3, tidx, tidx2, tidx3, tfa, tfa2, tlen2, tlen3, tpick, tbox, one, Int.reduceEq, Int.reduceNeg, Nat.reduceGT, Nat.reduceLT, Nat.reduceLeDiff, Nat.reduceEqDiff, ↓reduceIte, reduceCtorEq, Int.reduceToNat, Int.reduceLE, Int.reduceLT, Nat.reduceAdd, Nat.reduceMul, hb, v3, v5, hd4, hnet, hneg', hr, hrl, hz, d1, hend2, hdl, hz4, e4, hnot, aop_nc, tnc, decide_false, ff_18]) | (refine WK.condT ?_ ?_; focus (simp only [ev_tmp, ev_const, fset_apply, Nat.reduceEqDiff, ↓reduceIte, decide_true, decide_false, hb, v3, v5, hd4, hnet, hneg', hr, hrl, hz, d1, hend2, hdl, hz4, e4, hnot, aop_nc, tnc, decide_false, ff_18]; done)) | (refine WK.condF ?_ ?_; focus (simp only [ev_tmp, ev_const, fset_apply, Nat.reduceEqDiff, ↓reduceIte, decide_true, decide_false, hb, v3, v5, hd4, hnet, hneg', hr, hrl, hz, d1, hend2, hdl, hz4, e4, hnot, aop_nc, tnc, decide_false, ff_18]; done)))
    refine AtCall.by (isVar_gives _ _ _) ?_
    rintro v n2 H2 k2 ⟨rfl, rfl, rfl⟩
    by_cases hvar : 0 ≤ s
    · simp (config := { maxSteps := 1000000 }) only [SS, forall_const, wx, tguard, acallee, top, tval, fput, tor, vsh, vbin, vun, tload, tload2, tload3, tidx, tidx2, tidx3, tfa, tfa2, tlen2, tlen3, tpick, tbox, one, Int.reduceEq, Int.reduceNeg, Nat.reduceGT, Nat.reduceLT, Nat.reduceLeDiff, Nat.reduceEqDiff, ↓reduceIte, reduceCtorEq, Int.reduceToNat, Int.reduceLE, Int.reduceLT, Nat.reduceAdd, Nat.reduceMul, hvar, decide_true, ff_18]
      repeat (first | apply WK.seq | apply WK.block | apply WK.skipSeq | apply WK.skipBlock | apply WK.retSeq | apply WK.retBlock | apply WK.exitSeq | apply WK.exitHere | refine WK.exitOn rfl ?_ | ((first | (refine WK.rgn ?_ ?_; kernel_rfl) | refine AtCall.now ?_); simp (config := { maxSteps := 1000000 }) only [SS, forall_const, wx, tguard, acallee, top, tval, fput, tor, vsh, vbin, vun, tload, tload2, tload3, tidx, tidx2, tidx3, tfa, tfa2, tlen2, tlen3, tpick, tbox, one, Int.reduceEq, Int.reduceNeg, Nat.reduceGT, Nat.reduceLT, Nat.reduceLeDiff, Nat.reduceEqDiff, ↓reduceIte, reduceCtorEq, Int.reduceToNat, Int.reduceLE, Int.reduceLT, Nat.reduceAdd, Nat.reduceMul, ff_18]) | (refine WK.condT ?_ ?_; focus (simp only [ev_tmp, ev_const, fset_apply, Nat.reduceEqDiff, ↓reduceIte, decide_true, decide_false, ff_18]; done)) | (refine WK.condF ?_ ?_; focus (simp only [ev_tmp, ev_const, fset_apply, Nat.reduceEqDiff, ↓reduceIte, decide_true, decide_false, ff_18]; done)))
      (first | refine WK.retNil ⟨Or.inr rfl, _, rfl, ?_, ?_⟩ | refine WK.skipNil ⟨Or.inl rfl, _, rfl, ?_, ?_⟩)
      · exact k1.keep
      · simp only [packed, fset_apply, Nat.reduceEqDiff, ↓reduceIte, List.getD_cons_zero, List.getD_cons_succ, ff_18]
        all_goals simp [hvar]
    · have hvar' : (0 ≤ s) = False := eq_false hvar
      simp (config := { maxSteps := 1000000 }) only [SS, forall_const, wx, tguard, acallee, top, tval, fput, tor, vsh, vbin, vun, tload, tload2, tload3, tidx, tidx2, tidx3, tfa, tfa2, tlen2, tlen3, tpick, tbox, one, Int.reduceEq, Int.reduceNeg, Nat.reduceGT, Nat.reduceLT, Nat.reduceLeDiff, Nat.reduceEqDiff, ↓reduceIte, reduceCtorEq, Int.reduceToNat, Int.reduceLE, Int.reduceLT, Nat.reduceAdd, Nat.reduceMul, hvar', decide_false, ff_18]
      repeat (first | apply WK.seq | apply WK.block | apply WK.skipSeq | apply WK.skipBlock | apply WK.retSeq | apply WK.retBlock | apply WK.exitSeq | apply WK.exitHere | refine WK.exitOn rfl ?_ | ((first | (refine WK.rgn ?_ ?_; kernel_rfl) | refine AtCall.now ?_); simp (config := { maxSteps := 1000000 }) only [SS, forall_const, wx, tguard, acallee, top, tval, fput, tor, vsh, vbin, vun, tload, tload2, tload3, tidx, tidx2, tidx3, tfa, tfa2, tlen2, tlen3, tpick, tbox, one, Int.reduceEq, Int.reduceNeg, Nat.reduceGT, Nat.reduceLT, Nat.reduceLeDiff, Nat.reduceEqDiff, ↓reduceIte, reduceCtorEq, Int.reduceToNat, Int.reduceLE, Int.reduceLT, Nat.reduceAdd, Nat.reduceMul, hdl, hd4, hb, v5, hz4, e4, hnot, ff_18]) | (refine WK.condT ?_ ?_; focus (simp only [ev_tmp, ev_const, fset_apply, Nat.reduceEqDiff, ↓reduceIte, decide_true, decide_false, hdl, hd4, hb, v5, hz4, e4, hnot, ff_18]; done)) | (refine WK.condF ?_ ?_; focus (simp only [ev_tmp, ev_const, fset_apply, Nat.reduceEqDiff, ↓reduceIte, decide_true, decide_false, hdl, hd4, hb, v5, hz4, e4, hnot, ff_18]; done)))
      (first | refine WK.retNil ⟨Or.inr rfl, _, rfl, ?_, ?_⟩ | refine WK.skipNil ⟨Or.inl rfl, _, rfl, ?_, ?_⟩)
      · exact k1.keep
      · simp only [packed, fset_apply, Nat.reduceEqDiff, ↓reduceIte, List.getD_cons_zero, List.getD_cons_succ, ff_18]
        all_goals simp [hvar]
end Go.Proofs.Ytfbdababcdfjfaa

namespace Go.Proofs.Ytfbdababcdfjfaa
open Go.AM
set_option maxRecDepth 100000
def VC (g : Gram) (c : Cfg) : Prop := c.rule < g.rules.length ∧ ∀ r, 0 ≤ c.rule → g.rules[c.rule.toNat]? = some r → 0 ≤ c.dot ∧ c.dot ≤ r.right.length
def idle (g : Gram) (c : Cfg) : Bool := decide (nextL g c = -2)
set_option maxHeartbeats 8000000 in
theorem close1_gives {N nn bn n cc : Nat} {H0 H : Heap} {x : CA} {pt pv pr : Option Addr} {g : Gram} {cl : List (Option Addr × List (Int × Int))} (hw0 : WF N H0) (k0 : Kp N H0 n H) (ne : NE H0 nn pt pv pr g cc cl) (hi : InG g) (hgl : g.terms.length ≤ 64 ∧ g.vars.length ≤ 64)
    (hlen : ∀ r ∈ g.rules, r.right.length ≤ 24) (hv : VC g x.1) (hbn : H0 bn = .cells [.pointer (some ⟨nn, 0, none⟩)] 29 true) :
    Gives Try.prog 40 [.agg (ccell x).toArray, .pointer (some ⟨bn, 0, none⟩)] n H fun v _ _ => v = .bool (idle g x.1) := by
  have hw := k0.wf hw0
  refine Gives.of orders ok40 (Nat.le_of_ble_eq_true rfl) ?_
  have v1 : ∀ s, vcells (.agg (ccell s).toArray) = ccell s := fun _ => rfl
  have v2 : ∀ s, (ccell s).all one = true := fun _ => rfl
  have v5 : ∀ s, (ccell s).length = 4 := fun _ => rfl
  have v6 : ∀ s, ((ccell s).drop 0).take 4 = ccell s := fun _ => rfl
  have k1 := Kp.new n H (.cells (ccell x) 47 true)
  have hb := hset_at H n (.cells (ccell x) 47 true)
  have k01 := k0.trans k1
  have hb1 := (k01.keep bn (live_lt hw0 (live_of hbn))).trans hbn
  repeat (first | apply WK.seq | apply WK.block | apply WK.skipSeq | apply WK.skipBlock | apply WK.retSeq | apply WK.retBlock | apply WK.exitSeq | apply WK.exitHere | refine WK.exitOn rfl ?_)
  (refine WK.rgn ?_ ?_; kernel_rfl; simp (config := { maxSteps := 1000000 }) only [SS, forall_const, wx, tguard, acallee, top, tval, fput, tor, vsh, vbin, tload, tload2, tload3, tbox, one, Int.reduceEq, Int.reduceNeg, Nat.reduceGT, Nat.reduceLT, Nat.reduceLeDiff, Nat.reduceEqDiff, ↓reduceIte, reduceCtorEq, Int.reduceToNat, Int.reduceLE, Int.reduceLT, Nat.reduceAdd, Nat.reduceMul, abox, v1, v2, ff_40])
  generalize hset H n (.cells (ccell x) 47 true) = H1 at *
  repeat (first | apply WK.seq | apply WK.block | apply WK.skipSeq | apply WK.skipBlock | apply WK.retSeq | apply WK.retBlock | apply WK.exitSeq | apply WK.exitHere | refine WK.exitOn rfl ?_ | ((first | (refine WK.rgn ?_ ?_; kernel_rfl) | refine AtCall.now ?_); simp (config := { maxSteps := 1000000 }) only [SS, forall_const, wx, tguard, acallee, top, tval, fput, tor, vsh, vbin, tload, tload2, tload3, tbox, one, Int.reduceEq, Int.reduceNeg, Nat.reduceGT, Nat.reduceLT, Nat.reduceLeDiff, Nat.reduceEqDiff, ↓reduceIte, reduceCtorEq, Int.reduceToNat, Int.reduceLE, Int.reduceLT, Nat.reduceAdd, Nat.reduceMul, hb, hb1, v5, v6, ff_40]) | (refine WK.condT ?_ ?_; focus (simp only [ev_tmp, ev_const, fset_apply, Nat.reduceEqDiff, ↓reduceIte, decide_true, decide_false, hb, hb1, v5, v6, ff_40]; done)) | (refine WK.condF ?_ ?_; focus (simp only [ev_tmp, ev_const, fset_apply, Nat.reduceEqDiff, ↓reduceIte, decide_true, decide_false, hb, hb1, v5, v6, ff_40]; done)))
  refine AtCall.by (next_gives hw0 k01 ne hi hgl hlen hv.1 hv.2) ?_
  rintro v n2 H2 k2 rfl
  by_cases h : nextL g x.1 = -2
  · simp (config := { maxSteps := 1000000 }) only [SS, forall_const, wx, tguard, acallee, top, tval, fput, tor, vsh, vbin, tload, tload2, tload3, tbox, one, Int.reduceEq, Int.reduceNeg, Nat.reduceGT, Nat.reduceLT, Nat.reduceLeDiff, Nat.reduceEqDiff, ↓reduceIte, reduceCtorEq, Int.reduceToNat, Int.reduceLE, Int.reduceLT, Nat.reduceAdd, Nat.reduceMul, h, decide_true, ff_40]
    repeat (first | apply WK.seq | apply WK.block | apply WK.skipSeq | apply WK.skipBlock | apply WK.retSeq | apply WK.retBlock | apply WK.exitSeq | apply WK.exitHere | refine WK.exitOn rfl ?_ | ((first | (refine WK.rgn ?_ ?_; kernel_rfl) | refine AtCall.now ?_); simp (config := { maxSteps := 1000000 }) only [SS, forall_const, wx, tguard, acallee, top, tval, fput, tor, vsh, vbin, tload, tload2, tload3, tbox, one, Int.reduceEq, Int.reduceNeg, Nat.reduceGT, Nat.reduceLT, Nat.reduceLeDiff, Nat.reduceEqDiff, ↓reduceIte, reduceCtorEq, Int.reduceToNat, Int.reduceLE, Int.reduceLT, Nat.reduceAdd, Nat.reduceMul, ff_40]) | (refine WK.condT ?_ ?_; focus (simp only [ev_tmp, ev_const, fset_apply, Nat.reduceEqDiff, ↓reduceIte, decide_true, decide_false, ff_40]; done)) | (refine WK.condF ?_ ?_; focus (simp only [ev_tmp, ev_const, fset_apply, Nat.reduceEqDiff, ↓reduceIte, decide_true, decide_false, ff_40]; done)))
    (first | refine WK.retNil ⟨Or.inr rfl, _, rfl, ?_, ?_⟩ | refine WK.skipNil ⟨Or.inl rfl, _, rfl, ?_, ?_⟩)
    · exact (k1.trans k2).keep
    · simp only [packed, fset_apply, Nat.reduceEqDiff, ↓reduceIte, List.getD_cons_zero, List.getD_cons_succ, ff_40]
      unfold idle
      rw [h]
      all_goals simp
  · simp (config := { maxSteps := 1000000 }) only [SS, forall_const, wx, tguard, acallee, top, tval, fput, tor, vsh, vbin, tload, tload2, tload3, tbox, one, Int.reduceEq, Int.reduceNeg, Nat.reduceGT, Nat.reduceLT, Nat.reduceLeDiff, Nat.reduceEqDiff, ↓reduceIte, reduceCtorEq, Int.reduceToNat, Int.reduceLE, Int.reduceLT, Nat.reduceAdd, Nat.reduceMul, h, decide_false, ff_40]
    repeat (first | apply WK.seq | apply WK.block | apply WK.skipSeq | apply WK.skipBlock | apply WK.retSeq | apply WK.retBlock | apply WK.exitSeq | apply WK.exitHere | refine WK.exitOn rfl ?_ | ((first | (refine WK.rgn ?_ ?_; kernel_rfl) | refine AtCall.now ?_); simp (config := { maxSteps := 1000000 }) only [SS, forall_const, wx, tguard, acallee, top, tval, fput, tor, vsh, vbin, tload, tload2, tload3, tbox, one, Int.reduceEq, Int.reduceNeg, Nat.reduceGT, Nat.reduceLT, Nat.reduceLeDiff, Nat.reduceEqDiff, ↓reduceIte, reduceCtorEq, Int.reduceToNat, Int.reduceLE, Int.reduceLT, Nat.reduceAdd, Nat.reduceMul, ff_40]) | (refine WK.condT ?_ ?_; focus (simp only [ev_tmp, ev_const, fset_apply, Nat.reduceEqDiff, ↓reduceIte, decide_true, decide_false, ff_40]; done)) | (refine WK.condF ?_ ?_; focus (simp only [ev_tmp, ev_const, fset_apply, Nat.reduceEqDiff, ↓reduceIte, decide_true, decide_false, ff_40]; done)))
    (first | refine WK.retNil ⟨Or.inr rfl, _, rfl, ?_, ?_⟩ | refine WK.skipNil ⟨Or.inl rfl, _, rfl, ?_, ?_⟩)
    · exact (k1.trans k2).keep
    · simp only [packed, fset_apply, Nat.reduceEqDiff, ↓reduceIte, List.getD_cons_zero, List.getD_cons_succ, ff_40]
      unfold idle
      all_goals simp [h]
set_option maxHeartbeats 8000000 in
theorem indexF_gives {N nn bn n cc : Nat} {H0 H : Heap} {p : Option Addr} {L : List CA} {pt pv pr : Option Addr} {g : Gram} {cl : List (Option Addr × List (Int × Int))} (hw0 : WF N H0) (k0 : Kp N H0 n H) (ne : NE H0 nn pt pv pr g cc cl) (hi : InG g) (hgl : g.terms.length ≤ 64 ∧ g.vars.length ≤ 64)
    (hlen : ∀ r ∈ g.rules, r.right.length ≤ 24) (hv : ∀ x ∈ L, VC g x.1) (hbn : H0 bn = .cells [.pointer (some ⟨nn, 0, none⟩)] 29 true) (hL : RN 4 ccell H p L) (hl : L.length ≤ 65536) :
    Gives Try.prog 72 [.slice p L.length L.length, .func (.func 40) #[] #[.pointer (some ⟨bn, 0, none⟩)]] n H fun v _ _ =>
      (v = .int .i64 (-1) ∧ ∀ x ∈ L, idle g x.1 = false) ∨ ∃ i : Nat, ∃ h : i < L.length, v = .int .i64 (i : Nat) ∧ idle g L[i].1 = true ∧ ∀ x ∈ L.take i, idle g x.1 = false := by
  have hw := k0.wf hw0
  refine Gives.of orders ok72 (Nat.le_of_ble_eq_true rfl) ?_
  have v5 : ∀ s, (ccell s).length = 4 := fun _ => rfl
  repeat (first | apply WK.seq | apply WK.block | apply WK.skipSeq | apply WK.skipBlock | apply WK.retSeq | apply WK.retBlock | apply WK.exitSeq | apply WK.exitHere | refine WK.exitOn rfl ?_ | ((first | (refine WK.rgn ?_ ?_; kernel_rfl) | refine AtCall.now ?_); simp (config := { maxSteps := 1000000 }) only [SS, forall_const, wx, tguard, acallee, top, tval, fput, tor, vsh, vbin, tload, tload2, tload3, tidx, tidx2, tidx3, tlen2, tlen3, Int.reduceEq, Int.reduceNeg, Nat.reduceGT, Nat.reduceLT, Nat.reduceLeDiff, Nat.reduceEqDiff, ↓reduceIte, reduceCtorEq, Int.reduceToNat, Int.reduceLE, Int.reduceLT, Nat.reduceAdd, Nat.reduceMul, ff_72]) | (refine WK.condT ?_ ?_; focus (simp only [ev_tmp, ev_const, fset_apply, Nat.reduceEqDiff, ↓reduceIte, decide_true, decide_false, ff_72]; done)) | (refine WK.condF ?_ ?_; focus (simp only [ev_tmp, ev_const, fset_apply, Nat.reduceEqDiff, ↓reduceIte, decide_true, decide_false, ff_72]; done)))
  refine WK.loop (fun k s => ∃ i : Nat, Kp n H s.n s.H ∧ s.f 0 = .slice p L.length L.length ∧ s.f 1 = .func (.func 40) #[] #[.pointer (some ⟨bn, 0, none⟩)] ∧ s.f 7 = .int .i64 (L.length : Nat) ∧ s.f 8 = .int .i64 (i : Nat) ∧ i ≤ L.length ∧ (∀ x ∈ L.take i, idle g x.1 = false) ∧ k = L.length - i) L.length ?_ ?_
  · exact ⟨0, Kp.refl _ _, rfl, rfl, rfl, rfl, Nat.zero_le _, (fun x hx => by simp at hx), rfl⟩
  rintro kk ⟨f, n1, H1⟩ ⟨i, k1, f0, f1, f7, f8, hil, hno, rfl⟩ ih
  simp only at k1 f0 f1 f7 f8 ih
  have hw1 := k1.wf hw
  have hL1 := hL.mono hw k1
  have k01 := k0.trans k1
  by_cases hlt : i < L.length
  · have hiw : IntKind.i64.wrap ((i : Int) + 1) = ((i + 1 : Nat) : Int) := by rw [wrap_in (by omega) (by omega)]; rfl
    obtain ⟨z, kz, cs, tz, oz, hp, hz, ez, lz⟩ := hL1.at ccell_len hlt
    rw [hp] at f0
    have hmem := List.getElem_mem hlt
    have htk : L.take (i + 1) = L.take i ++ [L[i]] := List.take_succ_eq_append_getElem hlt
    have hcg := close1_gives (x := L[i]) hw0 k01 ne hi hgl hlen (hv _ hmem) hbn
    repeat (first | apply WK.seq | apply WK.block | apply WK.skipSeq | apply WK.skipBlock | apply WK.retSeq | apply WK.retBlock | apply WK.exitSeq | apply WK.exitHere | refine WK.exitOn rfl ?_ | ((first | (refine WK.rgn ?_ ?_; kernel_rfl) | refine AtCall.now ?_); simp (config := { maxSteps := 1000000 }) only [SS, forall_const, wx, tguard, acallee, top, tval, fput, tor, vsh, vbin, tload, tload2, tload3, tidx, tidx2, tidx3, tlen2, tlen3, Int.reduceEq, Int.reduceNeg, Nat.reduceGT, Nat.reduceLT, Nat.reduceLeDiff, Nat.reduceEqDiff, ↓reduceIte, reduceCtorEq, Int.reduceToNat, Int.reduceLE, Int.reduceLT, Nat.reduceAdd, Nat.reduceMul, f0, f1, f7, f8, hlt, hz, ez, lz, v5, List.nil_append, List.cons_append, ff_72]) | (refine WK.condT ?_ ?_; focus (simp only [ev_tmp, ev_const, fset_apply, Nat.reduceEqDiff, ↓reduceIte, decide_true, decide_false, f0, f1, f7, f8, hlt, hz, ez, lz, v5, List.nil_append, List.cons_append, ff_72]; done)) | (refine WK.condF ?_ ?_; focus (simp only [ev_tmp, ev_const, fset_apply, Nat.reduceEqDiff, ↓reduceIte, decide_true, decide_false, f0, f1, f7, f8, hlt, hz, ez, lz, v5, List.nil_append, List.cons_append, ff_72]; done)))
    refine AtCall.by hcg ?_
    rintro v n2 H2 k2 rfl
    cases hid : idle g L[i].1 with
    | true =>
      simp (config := { maxSteps := 1000000 }) only [SS, forall_const, wx, tguard, acallee, top, tval, fput, tor, vsh, vbin, tload, tload2, tload3, tidx, tidx2, tidx3, tlen2, tlen3, Int.reduceEq, Int.reduceNeg, Nat.reduceGT, Nat.reduceLT, Nat.reduceLeDiff, Nat.reduceEqDiff, ↓reduceIte, reduceCtorEq, Int.reduceToNat, Int.reduceLE, Int.reduceLT, Nat.reduceAdd, Nat.reduceMul, ff_72]
      repeat (first | apply WK.seq | apply WK.block | apply WK.skipSeq | apply WK.skipBlock | apply WK.retSeq | apply WK.retBlock | apply WK.exitSeq | apply WK.exitHere | refine WK.exitOn rfl ?_ | ((first | (refine WK.rgn ?_ ?_; kernel_rfl) | refine AtCall.now ?_); simp (config := { maxSteps := 1000000 }) only [SS, forall_const, wx, tguard, acallee, top, tval, fput, tor, vsh, vbin, tload, tload2, tload3, tidx, tidx2, tidx3, tlen2, tlen3, Int.reduceEq, Int.reduceNeg, Nat.reduceGT, Nat.reduceLT, Nat.reduceLeDiff, Nat.reduceEqDiff, ↓reduceIte, reduceCtorEq, Int.reduceToNat, Int.reduceLE, Int.reduceLT, Nat.reduceAdd, Nat.reduceMul, ff_72]) | (refine WK.condT ?_ ?_; focus (simp only [ev_tmp, ev_const, fset_apply, Nat.reduceEqDiff, ↓reduceIte, decide_true, decide_false, ff_72]; done)) | (refine WK.condF ?_ ?_; focus (simp only [ev_tmp, ev_const, fset_apply, Nat.reduceEqDiff, ↓reduceIte, decide_true, decide_false, ff_72]; done)))
      (first | refine WK.retNil ⟨Or.inr rfl, _, rfl, ?_, ?_⟩ | refine WK.skipNil ⟨Or.inl rfl, _, rfl, ?_, ?_⟩)
      · exact (k1.trans k2).keep
      · simp only [packed, fset_apply, Nat.reduceEqDiff, ↓reduceIte, List.getD_cons_zero, List.getD_cons_succ, ff_72]
        exact .inr ⟨i, hlt, rfl, hid, hno⟩
    | false =>
      simp (config := { maxSteps := 1000000 }) only [SS, forall_const, wx, tguard, acallee, top, tval, fput, tor, vsh, vbin, tload, tload2, tload3, tidx, tidx2, tidx3, tlen2, tlen3, Int.reduceEq, Int.reduceNeg, Nat.reduceGT, Nat.reduceLT, Nat.reduceLeDiff, Nat.reduceEqDiff, ↓reduceIte, reduceCtorEq, Int.reduceToNat, Int.reduceLE, Int.reduceLT, Nat.reduceAdd, Nat.reduceMul, ff_72]
      repeat (first | apply WK.seq | apply WK.block | apply WK.skipSeq | apply WK.skipBlock | apply WK.retSeq | apply WK.retBlock | apply WK.exitSeq | apply WK.exitHere | refine WK.exitOn rfl ?_ | ((first | (refine WK.rgn ?_ ?_; kernel_rfl) | refine AtCall.now ?_); simp (config := { maxSteps := 1000000 }) only [SS, forall_const, wx, tguard, acallee, top, tval, fput, tor, vsh, vbin, tload, tload2, tload3, tidx, tidx2, tidx3, tlen2, tlen3, Int.reduceEq, Int.reduceNeg, Nat.reduceGT, Nat.reduceLT, Nat.reduceLeDiff, Nat.reduceEqDiff, ↓reduceIte, reduceCtorEq, Int.reduceToNat, Int.reduceLE, Int.reduceLT, Nat.reduceAdd, Nat.reduceMul, f8, hiw, ff_72]) | (refine WK.condT ?_ ?_; focus (simp only [ev_tmp, ev_const, fset_apply, Nat.reduceEqDiff, ↓reduceIte, decide_true, decide_false, f8, hiw, ff_72]; done)) | (refine WK.condF ?_ ?_; focus (simp only [ev_tmp, ev_const, fset_apply, Nat.reduceEqDiff, ↓reduceIte, decide_true, decide_false, f8, hiw, ff_72]; done)))
      exact ih (L.length - (i + 1)) (by omega) _ ⟨i + 1, k1.trans k2, by rw [hp]; exact f0, f1, f7, rfl, hlt, (fun x hx => by
        rw [htk] at hx
        rcases List.mem_append.1 hx with h | h
        · exact hno x h
        · rw [List.mem_singleton] at h; rw [h]; exact hid), rfl⟩
  · rw [List.take_of_length_le (by omega)] at hno
    repeat (first | apply WK.seq | apply WK.block | apply WK.skipSeq | apply WK.skipBlock | apply WK.retSeq | apply WK.retBlock | apply WK.exitSeq | apply WK.exitHere | refine WK.exitOn rfl ?_ | ((first | (refine WK.rgn ?_ ?_; kernel_rfl) | refine AtCall.now ?_); simp (config := { maxSteps := 1000000 }) only [SS, forall_const, wx, tguard, acallee, top, tval, fput, tor, vsh, vbin, tload, tload2, tload3, tidx, tidx2, tidx3, tlen2, tlen3, Int.reduceEq, Int.reduceNeg, Nat.reduceGT, Nat.reduceLT, Nat.reduceLeDiff, Nat.reduceEqDiff, ↓reduceIte, reduceCtorEq, Int.reduceToNat, Int.reduceLE, Int.reduceLT, Nat.reduceAdd, Nat.reduceMul, f7, f8, hlt, ff_72]) | (refine WK.condT ?_ ?_; focus (simp only [ev_tmp, ev_const, fset_apply, Nat.reduceEqDiff, ↓reduceIte, decide_true, decide_false, f7, f8, hlt, ff_72]; done)) | (refine WK.condF ?_ ?_; focus (simp only [ev_tmp, ev_const, fset_apply, Nat.reduceEqDiff, ↓reduceIte, decide_true, decide_false, f7, f8, hlt, ff_72]; done)))
    (first | refine WK.retNil ⟨Or.inr rfl, _, rfl, ?_, ?_⟩ | refine WK.skipNil ⟨Or.inl rfl, _, rfl, ?_, ?_⟩)
    · exact k1.keep
    · simp only [packed, fset_apply, Nat.reduceEqDiff, ↓reduceIte, List.getD_cons_zero, List.getD_cons_succ, ff_72]
      exact .inl ⟨trivial, hno⟩
end Go.Proofs.Ytfbdababcdfjfaa

namespace Go.Proofs.Ytfbdababcdfjfaa
open Go.AM
set_option maxRecDepth 100000
theorem Come.all {deep most : Nat} {S T S' T' : List CA} {x : CA} {P : Cfg → Prop} (h : Come deep most S T x S' T') (hS : ∀ y ∈ S ++ T, P y.1) (hx : x.1.stack.length ≤ deep → P x.1) : ∀ y ∈ S' ++ T', P y.1 := by
  cases h with
  | old h => exact hS
  | new h hd hm i hi =>
    have hP := hx hd
    intro y hy
    rcases List.mem_append.1 hy with hy | hy
    · rcases List.mem_append.1 hy with hy | hy
      · rcases List.mem_append.1 hy with hy | hy
        · exact hS y (List.mem_append_left _ (List.mem_of_mem_take hy))
        · rw [List.mem_singleton] at hy; rw [hy]; exact hP
      · exact hS y (List.mem_append_left _ (List.mem_of_mem_drop hy))
    · rcases List.mem_append.1 hy with hy | hy
      · exact hS y (List.mem_append_right _ hy)
      · rw [List.mem_singleton] at hy; rw [hy]; exact hP
theorem Comes.all {deep most : Nat} {S T S' T' : List CA} {l : List Cfg} {b : Bool} {P : Cfg → Prop} (h : Comes deep most S T l b S' T') (hS : ∀ y ∈ S ++ T, P y.1) (hl : ∀ c ∈ l, c.stack.length ≤ deep → P c) : ∀ y ∈ S' ++ T', P y.1 := by
  induction h with
  | nil => exact hS
  | fail => exact hS
  | cons h _ ih => exact ih (h.all hS (hl _ (List.mem_cons_self ..))) fun c hc => hl c (List.mem_cons_of_mem _ hc)
theorem Come.mem {deep most : Nat} {S T S' T' : List CA} {x : CA} (h : Come deep most S T x S' T') (c : Cfg) : c ∈ S'.map (·.1) ↔ c ∈ S.map (·.1) ∨ c = x.1 := by
  cases h with
  | old h =>
    constructor
    · exact .inl
    · rintro (e | e)
      · exact e
      · rw [e]; exact h
  | new h hd hm i hi =>
    conv => rhs; rw [← List.take_append_drop i S]
    simp only [List.map_append, List.mem_append, List.map_cons, List.map_nil, List.mem_singleton]
    constructor
    · rintro ((e | e) | e)
      · exact .inl (.inl e)
      · exact .inr e
      · exact .inl (.inr e)
    · rintro ((e | e) | e)
      · exact .inl (.inl e)
      · exact .inr e
      · exact .inl (.inr e)
theorem Come.len {deep most : Nat} {S T S' T' : List CA} {x : CA} (h : Come deep most S T x S' T') : S'.length + T.length = S.length + T'.length ∧ S.length ≤ S'.length := by
  cases h with
  | old h => exact ⟨rfl, Nat.le_refl _⟩
  | new h hd hm i hi => simp; omega
theorem Comes.len {deep most : Nat} {S T S' T' : List CA} {l : List Cfg} {b : Bool} (h : Comes deep most S T l b S' T') : S'.length + T.length = S.length + T'.length ∧ S.length ≤ S'.length := by
  induction h with
  | nil => exact ⟨rfl, Nat.le_refl _⟩
  | fail => exact ⟨rfl, Nat.le_refl _⟩
  | cons h _ ih => have := h.len; omega
theorem Comes.mem {deep most : Nat} {S T S' T' : List CA} {l : List Cfg} {b : Bool} (h : Comes deep most S T l b S' T') (hb : b = true) (c : Cfg) : c ∈ S'.map (·.1) ↔ c ∈ S.map (·.1) ∨ c ∈ l := by
  induction h with
  | nil => simp
  | fail => cases hb
  | cons h _ ih =>
    rw [ih hb, h.mem, List.mem_cons]
    exact ⟨fun e => e.elim (fun e => e.elim .inl fun e => .inr (.inl e)) fun e => .inr (.inr e), fun e => e.elim (fun e => .inl (.inl e)) fun e => e.elim (fun e => .inl (.inr e)) .inr⟩
inductive Pops (g : Gram) (cl : List (List (Int × Int))) (deep most : Nat) : List CA → List CA → Bool → List CA → Prop where
  | done (S : List CA) : Pops g cl deep most S [] true S
  | fail {S T S' T' : List CA} {x : CA} (h : Comes deep most S T (stepL g cl x.1) false S' T') : Pops g cl deep most S (T ++ [x]) false S'
  | step {S T S' T' S2 : List CA} {x : CA} {b : Bool} (h : Comes deep most S T (stepL g cl x.1) true S' T') (k : Pops g cl deep most S' T' b S2) : Pops g cl deep most S (T ++ [x]) b S2
inductive Clo (g : Gram) (cl : List (List (Int × Int))) (deep most : Nat) (l : List Cfg) : Bool → List CA → Prop where
  | fail {S T : List CA} (h : Comes deep most [] [] l false S T) : Clo g cl deep most l false S
  | run {S T S' : List CA} {b : Bool} (h : Comes deep most [] [] l true S T) (k : Pops g cl deep most S T b S') : Clo g cl deep most l b S'
def GC (g : Gram) (c : Cfg) : Prop := VC g c ∧ ∀ s ∈ c.stack, VS g s
theorem VS.gc {g : Gram} {s : Int × Int} {a : Int} {st : List (Int × Int)} (h : VS g s) (hs : ∀ s ∈ st, VS g s) : GC g ⟨a, s.1, s.2, st⟩ := ⟨⟨h.2.1, fun r _ hr => ⟨h.2.2.1, h.2.2.2 r hr⟩⟩, hs⟩
theorem back_gc {g : Gram} {cl : List (List (Int × Int))} {c : Cfg} (hcl : ∀ x ∈ cl, ∀ s ∈ x, VS g s) (h : GC g c) : ∀ d ∈ backL g cl c, GC g d := by
  intro d hd
  unfold backL at hd
  rcases List.eq_nil_or_concat c.stack with e | ⟨st, s, e⟩
  · simp only [e, List.getLast?_nil] at hd
    cases hr : g.rules[c.rule.toNat]? with
    | none => simp [hr] at hd
    | some r =>
      simp only [hr] at hd
      rcases List.mem_append.1 hd with hd | hd
      · split at hd
        · rw [List.mem_singleton] at hd
          subst hd
          exact ⟨⟨by show (-1 : Int) < _; omega, fun r h => absurd h (by show ¬ (0 : Int) ≤ -1; omega)⟩, fun s hs => by simp at hs⟩
        · simp at hd
      · obtain ⟨s, hs, rfl⟩ := List.mem_map.1 hd
        refine VS.gc ?_ fun s hs => by simp at hs
        by_cases hl : r.left.toNat < cl.length
        · rw [List.getD_eq_getElem?_getD, List.getElem?_eq_getElem hl] at hs
          exact hcl _ (List.getElem_mem hl) s hs
        · rw [List.getD_eq_getElem?_getD, List.getElem?_eq_none (by omega)] at hs
          simp at hs
  · rw [List.concat_eq_append] at e
    simp only [e, List.getLast?_concat] at hd
    rw [List.mem_singleton] at hd
    subst hd
    refine VS.gc (h.2 s (by rw [e]; simp)) fun q hq => h.2 q ?_
    rw [List.dropLast_concat] at hq
    rw [e]
    exact List.mem_append_left _ hq
theorem step_gc {g : Gram} {cl : List (List (Int × Int))} {c : Cfg} (hcl : ∀ x ∈ cl, ∀ s ∈ x, VS g s) (h : GC g c) : ∀ d ∈ stepL g cl c, GC g d := by
  intro d hd
  unfold stepL at hd
  split at hd
  · simp at hd
  rename_i hneg
  split at hd
  · simp at hd
  rename_i r hr
  obtain ⟨h1, h2⟩ := h.1.2 r (by omega) hr
  split at hd
  · exact back_gc hcl h d hd
  rename_i hne
  split at hd
  · simp at hd
  rename_i s hs
  split at hd
  · obtain ⟨i, hi, rfl⟩ := List.mem_map.1 hd
    unfold ruleIx at hi
    rw [List.mem_filter, List.mem_range] at hi
    refine ⟨⟨by show ((i : Nat) : Int) < _; omega, fun r' _ _ => ⟨by show (0 : Int) ≤ 0; omega, by show (0 : Int) ≤ _; omega⟩⟩, fun q hq => ?_⟩
    simp only [stkL] at hq
    split at hq
    · rcases List.mem_append.1 hq with hq | hq
      · exact h.2 q hq
      · rw [List.mem_singleton] at hq
        subst hq
        refine ⟨by show 0 ≤ c.rule; omega, h.1.1, by show 0 ≤ c.dot + 1; omega, fun r' hr' => ?_⟩
        have e : some r = some r' := hr.symm.trans hr'
        cases e
        show c.dot + 1 ≤ _
        omega
    · exact h.2 q hq
  · simp at hd
theorem srt_same : ∀ {S R : List CA}, Srt S → Srt R → (∀ c, c ∈ S.map (·.1) ↔ c ∈ R.map (·.1)) → S.map (·.1) = R.map (·.1)
  | [], [], _, _, _ => rfl
  | [], b :: R, _, _, h => absurd ((h b.1).2 (by simp)) (by simp)
  | a :: S, [], _, _, h => absurd ((h a.1).1 (by simp)) (by simp)
  | a :: S, b :: R, hS, hR, h => by
    unfold Srt at hS hR
    rw [List.pairwise_cons] at hS hR
    have irr : ∀ c : Cfg, ¬ cmpC c c < 0 := fun c e => by
      have := cmpC_neg c c; omega
    have e : a.1 = b.1 := by
      have h1 := (h a.1).1 (by simp)
      have h2 := (h b.1).2 (by simp)
      rw [List.map_cons, List.mem_cons] at h1 h2
      rcases h1 with h1 | h1
      · exact h1
      rcases h2 with h2 | h2
      · exact h2.symm
      obtain ⟨x, hx, ex⟩ := List.mem_map.1 h1
      obtain ⟨y, hy, ey⟩ := List.mem_map.1 h2
      have q1 := hR.1 x hx
      have q2 := hS.1 y hy
      rw [ex] at q1
      rw [ey] at q2
      have := cmpC_neg a.1 b.1
      omega
    have hrec := srt_same hS.2 hR.2 fun c => by
      have hc := h c
      rw [List.map_cons, List.mem_cons, List.map_cons, List.mem_cons, e] at hc
      constructor
      · intro hm
        rcases hc.1 (.inr hm) with e2 | e2
        · obtain ⟨y, hy, ey⟩ := List.mem_map.1 hm
          have := hS.1 y hy
          rw [ey, e2, e] at this
          exact absurd this (irr _)
        · exact e2
      · intro hm
        rcases hc.2 (.inr hm) with e2 | e2
        · obtain ⟨y, hy, ey⟩ := List.mem_map.1 hm
          have := hR.1 y hy
          rw [ey, e2] at this
          exact absurd this (irr _)
        · exact e2
    rw [List.map_cons, List.map_cons, e, hrec]
theorem Pops.still {g : Gram} {cl : List (List (Int × Int))} {deep most : Nat} {S T S' : List CA} {b : Bool} (h : Pops g cl deep most S T b S') (hT : ∀ x ∈ T, stepL g cl x.1 = []) : b = true ∧ S' = S := by
  induction h with
  | done => exact ⟨rfl, rfl⟩
  | @fail S T S' T' x h =>
    rw [hT x (by simp)] at h
    cases h
  | @step S T S' T' S2 x b h k ih =>
    rw [hT x (by simp)] at h
    cases h
    exact ih fun y hy => hT y (List.mem_append_left _ hy)
theorem idle_step {g : Gram} {cl : List (List (Int × Int))} {c : Cfg} (h : idle g c = false) : stepL g cl c = [] := by
  have h := of_decide_eq_false h
  unfold nextL at h
  unfold stepL
  split
  · rfl
  rename_i hn
  rw [if_neg hn] at h
  split
  · rfl
  rename_i r hr
  rw [hr] at h
  simp only at h
  split
  · rename_i hd
    rw [if_pos hd] at h
    simp at h
  rename_i hd
  rw [if_neg hd] at h
  split
  · rfl
  rename_i s hs
  rw [hs] at h
  simp only at h
  split
  · rename_i h0
    rw [if_pos h0] at h
    simp at h
  · rfl
theorem Comes.whole {deep most : Nat} {S T S' T' : List CA} {l : List Cfg} {b : Bool} (h : Comes deep most S T l b S' T') (hd : ∀ c ∈ l, c.stack.length ≤ deep) (hn : S.length + l.length ≤ most) : b = true := by
  induction h with
  | nil => rfl
  | @fail S T c l h =>
    rw [List.length_cons] at hn
    rcases h with h | ⟨_, h⟩
    · have := hd c (List.mem_cons_self ..)
      omega
    · omega
  | @cons S T S1 T1 S2 T2 c p l b h k ih =>
    rw [List.length_cons] at hn
    refine ih (fun c hc => hd c (List.mem_cons_of_mem _ hc)) ?_
    cases h with
    | old h => omega
    | new h hd hm i hi => simp; omega
theorem Comes.todo {deep most : Nat} {S T S' T' : List CA} {l : List Cfg} {b : Bool} (h : Comes deep most S T l b S' T') : ∀ y ∈ T', y ∈ T ∨ y.1 ∈ l := by
  induction h with
  | nil => exact fun y hy => .inl hy
  | fail => exact fun y hy => .inl hy
  | cons h _ ih =>
    intro y hy
    rcases ih y hy with h1 | h1
    · cases h with
      | old _ => exact .inl h1
      | new h hd hm i hi =>
        rcases List.mem_append.1 h1 with h1 | h1
        · exact .inl h1
        · rw [List.mem_singleton] at h1
          exact .inr (by rw [h1]; exact List.mem_cons_self ..)
    · exact .inr (List.mem_cons_of_mem _ h1)
theorem Clo.again {g : Gram} {cl : List (List (Int × Int))} {deep most : Nat} {R S : List CA} {b : Bool} (h : Clo g cl deep most (R.map (·.1)) b S) (hR : ∀ x ∈ R, idle g x.1 = false) (hd : ∀ x ∈ R, x.1.stack.length ≤ deep) (hm : R.length ≤ most) :
    b = true ∧ ∀ c, c ∈ S.map (·.1) ↔ c ∈ R.map (·.1) := by
  have hd' : ∀ c ∈ R.map (·.1), c.stack.length ≤ deep := fun c hc => by
    obtain ⟨x, hx, rfl⟩ := List.mem_map.1 hc
    exact hd x hx
  cases h with
  | fail h =>
    have := h.whole hd' (by simp; omega)
    cases this
  | run h k =>
    have hst := k.still fun x hx => by
      rcases h.todo x hx with h1 | h1
      · simp at h1
      · obtain ⟨y, hy, e⟩ := List.mem_map.1 h1
        rw [← e]
        exact idle_step (hR y hy)
    obtain ⟨rfl, rfl⟩ := hst
    refine ⟨rfl, fun c => ?_⟩
    rw [h.mem rfl]
    simp
end Go.Proofs.Ytfbdababcdfjfaa
