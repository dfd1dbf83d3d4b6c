/- A part of a proof. Its conditions: none. -/
import Derived.Test.YtfbdababcdfjfaaAmNAtStep
import Derived.Test.YtfbdababcdfjfaaAmNAtBin
import Derived.Test.YtfbdababcdfjfaaAmNLfCount
set_option linter.all false
namespace Go.Proofs.Ytfbdababcdfjfaa
open Go.AM
set_option maxRecDepth 100000
def ruleIx (g : Gram) (s : Int) : List Nat := (List.range g.rules.length).filter fun i => decide ((g.rules[i]?).map (·.left) = some s)
def stkL (r : GRule) (c : Cfg) : List (Int × Int) := if c.stack = [] ∨ c.dot + 1 < (r.right.length : Int) then c.stack ++ [(c.rule, c.dot + 1)] else c.stack
def stepL (g : Gram) (cl : List (List (Int × Int))) (c : Cfg) : List Cfg :=
  if c.rule < 0 then [] else match g.rules[c.rule.toNat]? with
  | none => []
  | some r => if c.dot = (r.right.length : Int) then backL g cl c else match r.right[c.dot.toNat]? with
    | none => []
    | some s => if 0 ≤ s then (ruleIx g s).map fun i => ⟨c.alt, (i : Nat), 0, stkL r c⟩ else []
theorem ruleIx_eq {g : Gram} {s : Int} {a b : Nat} (hab : a ≤ b) (hb : b ≤ g.rules.length) (h : ∀ (i : Nat) (h : i < g.rules.length), g.rules[i].left = s ↔ a ≤ i ∧ i < b) : ruleIx g s = List.range' a (b - a) := by
  unfold ruleIx
  have h1 : (List.range g.rules.length).filter (fun i => decide ((g.rules[i]?).map (·.left) = some s)) = (List.range g.rules.length).filter fun i => decide (a ≤ i ∧ i < b) := by
    apply List.filter_congr
    intro i hi
    rw [List.mem_range] at hi
    rw [List.getElem?_eq_getElem hi]
    simp only [Option.map_some, Option.some.injEq, decide_eq_decide]
    exact h i hi
  rw [h1]
  have h2 : ∀ n, b ≤ n → (List.range n).filter (fun i => decide (a ≤ i ∧ i < b)) = List.range' a (b - a) := by
    intro n hn
    induction n with
    | zero =>
      have : b = 0 := by omega
      subst this
      simp
    | succ n ih =>
      rw [List.range_succ, List.filter_append]
      by_cases e : b ≤ n
      · rw [ih e]
        have : ¬ (n < b) := by omega
        simp [this]
      · have hbn : b = n + 1 := by omega
        subst hbn
        have h3 : ∀ m, m ≤ n → (List.range m).filter (fun i => decide (a ≤ i ∧ i < n + 1)) = List.range' a (m - a) := by
          intro m
          induction m with
          | zero => intro _; simp
          | succ m ihm =>
            intro hm
            rw [List.range_succ, List.filter_append, ihm (by omega)]
            by_cases ha : a ≤ m
            · have e1 : m + 1 - a = (m - a) + 1 := by omega
              rw [e1, List.range'_concat]
              simp [ha, show m < n + 1 by omega]
            · have e1 : m + 1 - a = 0 := by omega
              have e2 : m - a = 0 := by omega
              simp [ha, e1, e2]
        rw [h3 n (Nat.le_refl _)]
        by_cases ha : a ≤ n
        · have e1 : n + 1 - a = (n - a) + 1 := by omega
          rw [e1, List.range'_concat]
          simp [ha]
        · have e1 : n + 1 - a = 0 := by omega
          have e2 : n - a = 0 := by omega
          simp [ha, e1, e2]
  exact h2 _ hb
set_option maxHeartbeats 16000000 in
theorem step_gives {N co nn ys deep most n cc : Nat} {H0 H : Heap} {S T : List CA} {vt : Value} {x : CA} {pt pv pr : Option Addr} {g : Gram} {cl : List (Option Addr × List (Int × Int))} (hw0 : WF N H0) (k0 : Kp N H0 n H) (ne : NE H0 nn pt pv pr g cc cl) (ok : RightOK g)
    (hc : CO H N co nn ys S T vt deep most) (hx : XC H x) (hm : most ≤ 65536) (hdm : deep ≤ 65536) (hxs : x.1.stack.length ≤ 65536) (hr1 : x.1.rule < g.rules.length) (hd : ∀ r, 0 ≤ x.1.rule → g.rules[x.1.rule.toNat]? = some r → 0 ≤ x.1.dot ∧ x.1.dot ≤ r.right.length) :
    GivesX Try.prog (fun z => N ≤ z) 38 [.pointer (some ⟨co, 0, none⟩), .agg (ccell x).toArray] n H fun v n' H' => SpK H H' ∧
      ∃ b S' T', v = .bool b ∧ Comes deep most S T (stepL g (cl.map (·.2)) x.1) b S' T' ∧ (b = true → ∃ ys' vt', CO H' N co nn ys' S' T' vt' deep most) := by
  have hw := k0.wf hw0
  have hN := k0.le
  have hi := ok.inG
  refine GivesX.of orders ok38 (Nat.le_of_ble_eq_true rfl) ?_
  have v1 : ∀ s, vcells (.agg (ccell s).toArray) = ccell s := fun _ => rfl
  have v2 : ∀ s, (ccell s).all one = true := fun _ => rfl
  have v4 : ∀ s, (ccell s)[3]? = some (.slice s.2 s.1.stack.length s.1.stack.length) := fun _ => rfl
  have v0 : ∀ s, (ccell s)[0]? = some (.int .i64 s.1.alt) := fun _ => rfl
  have v3 : ∀ s, (ccell s)[1]? = some (.int .i64 s.1.rule) := fun _ => rfl
  have v8 : ∀ s, (ccell s)[2]? = some (.int .i64 s.1.dot) := fun _ => rfl
  have v5 : ∀ s, (ccell s).length = 4 := fun _ => rfl
  have v6 : ∀ s, ((ccell s).drop 0).take 4 = ccell s := fun _ => rfl
  have k1 := Kp.new n H (.cells (ccell x) 47 true)
  have hb := hset_at H n (.cells (ccell x) 47 true)
  have sp1 := Kp.spk hw k1
  have hc1 := hc.kp hw k1
  have k01 := k0.trans k1
  repeat (first | apply WK.seq | apply WK.block | apply WK.skipSeq | apply WK.skipBlock | apply WK.retSeq | apply WK.retBlock | apply WK.exitSeq | apply WK.exitHere | refine WK.exitOn rfl ?_)
  (refine WK.rgn ?_ ?_; kernel_rfl; simp (config := { maxSteps := 1000000 }) only [SS, forall_const, wx, tguard, acallee, top, tval, fput, tor, vsh, vbin, vun, tload, tload2, tload3, tidx, tidx2, tidx3, tfa, tfa2, tlen2, tlen3, tpick, textr, tbox, one, tbuild, afill, Go.AM.splice, tbs, tbs2, tap, tap2, tap3, tap4, tsrc, tsrc2, Int.reduceEq, Int.reduceNeg, Nat.reduceGT, Nat.reduceLT, Nat.reduceLeDiff, Nat.reduceEqDiff, ↓reduceIte, reduceCtorEq, Int.reduceToNat, Int.reduceLE, Int.reduceLT, Nat.reduceAdd, Nat.reduceMul, abox, v1, v2, ff_38])
  generalize hset H n (.cells (ccell x) 47 true) = H1 at *
  have hw1 := k1.wf hw
  have hx1 := hx.keep sp1
  by_cases hneg : x.1.rule < 0
  · repeat (first | apply WK.seq | apply WK.block | apply WK.skipSeq | apply WK.skipBlock | apply WK.retSeq | apply WK.retBlock | apply WK.exitSeq | apply WK.exitHere | refine WK.exitOn rfl ?_ | ((first | (refine WK.rgn ?_ ?_; kernel_rfl) | refine AtCall.now ?_); simp (config := { maxSteps := 1000000 }) only [SS, forall_const, wx, tguard, acallee, top, tval, fput, tor, vsh, vbin, vun, tload, tload2, tload3, tidx, tidx2, tidx3, tfa, tfa2, tlen2, tlen3, tpick, textr, tbox, one, tbuild, afill, Go.AM.splice, tbs, tbs2, tap, tap2, tap3, tap4, tsrc, tsrc2, Int.reduceEq, Int.reduceNeg, Nat.reduceGT, Nat.reduceLT, Nat.reduceLeDiff, Nat.reduceEqDiff, ↓reduceIte, reduceCtorEq, Int.reduceToNat, Int.reduceLE, Int.reduceLT, Nat.reduceAdd, Nat.reduceMul, hb, v3, v5, hneg, ff_38]) | (refine WK.condT ?_ ?_; focus (simp only [ev_tmp, ev_const, fset_apply, Nat.reduceEqDiff, ↓reduceIte, decide_true, decide_false, hb, v3, v5, hneg, ff_38]; done)) | (refine WK.condF ?_ ?_; focus (simp only [ev_tmp, ev_const, fset_apply, Nat.reduceEqDiff, ↓reduceIte, decide_true, decide_false, hb, v3, v5, hneg, ff_38]; done)))
    (first | refine WK.retNil ⟨Or.inr rfl, _, rfl, ?_, ?_⟩ | refine WK.skipNil ⟨Or.inl rfl, _, rfl, ?_, ?_⟩)
    · exact k1.kx.keep
    · simp only [packed, fset_apply, Nat.reduceEqDiff, ↓reduceIte, List.getD_cons_zero, List.getD_cons_succ, ff_38]
      have hsl : stepL g (cl.map (·.2)) x.1 = [] := by unfold stepL; rw [if_pos hneg]
      rw [hsl]
      exact ⟨sp1, true, S, T, rfl, .nil _ _, fun _ => ⟨ys, vt, hc1⟩⟩
  obtain ⟨r, hr⟩ : ∃ r : Nat, x.1.rule = r := ⟨x.1.rule.toNat, by omega⟩
  have hneg' : (((r : Nat) : Int) < 0) = False := eq_false (by omega)
  have hrl : r < g.rules.length := by omega
  have hrg : g.rules[x.1.rule.toNat]? = some g.rules[r] := by rw [hr, Int.toNat_natCast, List.getElem?_eq_getElem hrl]
  obtain ⟨hd0, hd1⟩ := hd _ (by omega) hrg
  have ne1 := ne.mono hw0 k01
  obtain ⟨z, kz, ds, tz, oz, pp, hpr, hz, d0, d1, d2, hpp⟩ := ne1.rls.at hrl
  have hmem := List.getElem_mem hrl
  have hri := hi.right _ hmem
  have hrl24 := (ok.rule r hrl).len
  have hnet := ne1.net
  rw [hpr] at hnet
  have hsl : stepL g (cl.map (·.2)) x.1 = if x.1.dot = (g.rules[r].right.length : Int) then backL g (cl.map (·.2)) x.1 else match g.rules[r].right[x.1.dot.toNat]? with
    | none => []
    | some s => if 0 ≤ s then (ruleIx g s).map fun i => ⟨x.1.alt, (i : Nat), 0, stkL g.rules[r] x.1⟩ else [] := by
    unfold stepL
    rw [if_neg hneg, hrg]
  rw [hsl]
  generalize g.rules[r] = ru at *
  obtain ⟨dt, hdt⟩ : ∃ dt : Nat, x.1.dot = dt := ⟨x.1.dot.toNat, by omega⟩
  by_cases hend : dt = ru.right.length
  · have hend' : x.1.dot = (ru.right.length : Int) := by omega
    rw [if_pos hend']
    have hbg := back_gives hw0 k01 ne hi hc1 hx1 hm hdm (by omega) (by omega) hr1
    repeat (first | apply WK.seq | apply WK.block | apply WK.skipSeq | apply WK.skipBlock | apply WK.retSeq | apply WK.retBlock | apply WK.exitSeq | apply WK.exitHere | refine WK.exitOn rfl ?_ | ((first | (refine WK.rgn ?_ ?_; kernel_rfl) | refine AtCall.now ?_); simp (config := { maxSteps := 1000000 }) only [SS, forall_const, wx, tguard, acallee, top, tval, fput, tor, vsh, vbin, vun, tload, tload2, tload3, tidx, tidx2, tidx3, tfa, tfa2, tlen2, tlen3, tpick, textr, tbox, one, tbuild, afill, Go.AM.splice, tbs, tbs2, tap, tap2, tap3, tap4, tsrc, tsrc2, Int.reduceEq, Int.reduceNeg, Nat.reduceGT, Nat.reduceLT, Nat.reduceLeDiff, Nat.reduceEqDiff, ↓reduceIte, reduceCtorEq, Int.reduceToNat, Int.reduceLE, Int.reduceLT, Nat.reduceAdd, Nat.reduceMul, hb, v3, v4, v5, v6, v8, hc1.obj, hnet, hneg', hr, hrl, hz, d1, hend', aop_nc, tnc, decide_true, ff_38]) | (refine WK.condT ?_ ?_; focus (simp only [ev_tmp, ev_const, fset_apply, Nat.reduceEqDiff, ↓reduceIte, decide_true, decide_false, hb, v3, v4, v5, v6, v8, hc1.obj, hnet, hneg', hr, hrl, hz, d1, hend', aop_nc, tnc, decide_true, ff_38]; done)) | (refine WK.condF ?_ ?_; focus (simp only [ev_tmp, ev_const, fset_apply, Nat.reduceEqDiff, ↓reduceIte, decide_true, decide_false, hb, v3, v4, v5, v6, v8, hc1.obj, hnet, hneg', hr, hrl, hz, d1, hend', aop_nc, tnc, decide_true, ff_38]; done)))
    refine AtCall.byX hbg ?_
    rintro v n2 H2 k2 ⟨sp2, b, S', T', rfl, hcs, hco⟩
    simp (config := { maxSteps := 1000000 }) only [SS, forall_const, wx, tguard, acallee, top, tval, fput, tor, vsh, vbin, vun, tload, tload2, tload3, tidx, tidx2, tidx3, tfa, tfa2, tlen2, tlen3, tpick, textr, tbox, one, tbuild, afill, Go.AM.splice, tbs, tbs2, tap, tap2, tap3, tap4, tsrc, tsrc2, Int.reduceEq, Int.reduceNeg, Nat.reduceGT, Nat.reduceLT, Nat.reduceLeDiff, Nat.reduceEqDiff, ↓reduceIte, reduceCtorEq, Int.reduceToNat, Int.reduceLE, Int.reduceLT, Nat.reduceAdd, Nat.reduceMul, ff_38]
    repeat (first | apply WK.seq | apply WK.block | apply WK.skipSeq | apply WK.skipBlock | apply WK.retSeq | apply WK.retBlock | apply WK.exitSeq | apply WK.exitHere | refine WK.exitOn rfl ?_ | ((first | (refine WK.rgn ?_ ?_; kernel_rfl) | refine AtCall.now ?_); simp (config := { maxSteps := 1000000 }) only [SS, forall_const, wx, tguard, acallee, top, tval, fput, tor, vsh, vbin, vun, tload, tload2, tload3, tidx, tidx2, tidx3, tfa, tfa2, tlen2, tlen3, tpick, textr, tbox, one, tbuild, afill, Go.AM.splice, tbs, tbs2, tap, tap2, tap3, tap4, tsrc, tsrc2, Int.reduceEq, Int.reduceNeg, Nat.reduceGT, Nat.reduceLT, Nat.reduceLeDiff, Nat.reduceEqDiff, ↓reduceIte, reduceCtorEq, Int.reduceToNat, Int.reduceLE, Int.reduceLT, Nat.reduceAdd, Nat.reduceMul, ff_38]) | (refine WK.condT ?_ ?_; focus (simp only [ev_tmp, ev_const, fset_apply, Nat.reduceEqDiff, ↓reduceIte, decide_true, decide_false, ff_38]; done)) | (refine WK.condF ?_ ?_; focus (simp only [ev_tmp, ev_const, fset_apply, Nat.reduceEqDiff, ↓reduceIte, decide_true, decide_false, ff_38]; done)))
    (first | refine WK.retNil ⟨Or.inr rfl, _, rfl, ?_, ?_⟩ | refine WK.skipNil ⟨Or.inl rfl, _, rfl, ?_, ?_⟩)
    · exact (k1.kx.trans k2).keep
    · simp only [packed, fset_apply, Nat.reduceEqDiff, ↓reduceIte, List.getD_cons_zero, List.getD_cons_succ, ff_38]
      exact ⟨sp1.trans sp2, b, S', T', rfl, hcs, hco⟩
  · have hend' : ¬ x.1.dot = (ru.right.length : Int) := by omega
    have hdl : dt < ru.right.length := by omega
    obtain ⟨z4, kz4, c4, t4, o4, hp4, hz4, e4⟩ := hpp.at hdl
    rw [if_neg hend', hdt, Int.toNat_natCast, List.getElem?_eq_getElem hdl]
    have hend2 : ((dt : Int) = (ru.right.length : Int)) = False := eq_false (by omega)
    have hsm := List.getElem_mem hdl
    have hsv := hri _ hsm
    rw [hp4] at d1
    have hd4 : (ccell x)[2]? = some (.int .i64 (dt : Nat)) := by rw [v8, hdt]
    repeat (first | apply WK.seq | apply WK.block | apply WK.skipSeq | apply WK.skipBlock | apply WK.retSeq | apply WK.retBlock | apply WK.exitSeq | apply WK.exitHere | refine WK.exitOn rfl ?_ | ((first | (refine WK.rgn ?_ ?_; kernel_rfl) | refine AtCall.now ?_); simp (config := { maxSteps := 1000000 }) only [SS, forall_const, wx, tguard, acallee, top, tval, fput, tor, vsh, vbin, vun, tload, tload2, tload3, tidx, tidx2, tidx3, tfa, tfa2, tlen2, tlen3, tpick, textr, tbox, one, tbuild, afill, Go.AM.splice, tbs, tbs2, tap, tap2, tap3, tap4, tsrc, tsrc2, Int.reduceEq, Int.reduceNeg, Nat.reduceGT, Nat.reduceLT, Nat.reduceLeDiff, Nat.reduceEqDiff, ↓reduceIte, reduceCtorEq, Int.reduceToNat, Int.reduceLE, Int.reduceLT, Nat.reduceAdd, Nat.reduceMul, hb, v3, v4, v5, v6, hd4, hc1.obj, hnet, hneg', hr, hrl, hz, d1, hend2, hdl, hz4, e4, aop_nc, tnc, decide_false, ff_38]) | (refine WK.condT ?_ ?_; focus (simp only [ev_tmp, ev_const, fset_apply, Nat.reduceEqDiff, ↓reduceIte, decide_true, decide_false, hb, v3, v4, v5, v6, hd4, hc1.obj, hnet, hneg', hr, hrl, hz, d1, hend2, hdl, hz4, e4, aop_nc, tnc, decide_false, ff_38]; done)) | (refine WK.condF ?_ ?_; focus (simp only [ev_tmp, ev_const, fset_apply, Nat.reduceEqDiff, ↓reduceIte, decide_true, decide_false, hb, v3, v4, v5, v6, hd4, hc1.obj, hnet, hneg', hr, hrl, hz, d1, hend2, hdl, hz4, e4, aop_nc, tnc, decide_false, ff_38]; done)))
    refine AtCall.by (isVar_gives _ _ _) ?_
    rintro v n2 H2 k2 ⟨rfl, rfl, hH⟩
    obtain rfl := hH.symm
    clear k2
    have h00 : (((0 : Nat) : Int) = 0) = True := eq_true rfl
    by_cases hvar : 0 ≤ ru.right[dt]
    · rw [if_pos hvar]
      have hcg := clone_gives hw1 hx1 (by omega)
      have hst' : stkL ru x.1 = if x.1.stack = [] ∨ dt + 1 < ru.right.length then x.1.stack ++ [(((r : Nat) : Int), ((dt + 1 : Nat) : Int))] else x.1.stack := by
        unfold stkL
        rw [hdt, hr]
        have : (((dt : Int) + 1 < (ru.right.length : Int)) ↔ dt + 1 < ru.right.length) := by omega
        simp only [this]
        rfl
      generalize ru.right[dt] = s at *
      simp (config := { maxSteps := 1000000 }) only [SS, forall_const, wx, tguard, acallee, top, tval, fput, tor, vsh, vbin, vun, tload, tload2, tload3, tidx, tidx2, tidx3, tfa, tfa2, tlen2, tlen3, tpick, textr, tbox, one, tbuild, afill, Go.AM.splice, tbs, tbs2, tap, tap2, tap3, tap4, tsrc, tsrc2, Int.reduceEq, Int.reduceNeg, Nat.reduceGT, Nat.reduceLT, Nat.reduceLeDiff, Nat.reduceEqDiff, ↓reduceIte, reduceCtorEq, Int.reduceToNat, Int.reduceLE, Int.reduceLT, Nat.reduceAdd, Nat.reduceMul, hvar, decide_true, Bool.not_true, ff_38]
      repeat (first | apply WK.seq | apply WK.block | apply WK.skipSeq | apply WK.skipBlock | apply WK.retSeq | apply WK.retBlock | apply WK.exitSeq | apply WK.exitHere | refine WK.exitOn rfl ?_ | ((first | (refine WK.rgn ?_ ?_; kernel_rfl) | refine AtCall.now ?_); simp (config := { maxSteps := 1000000 }) only [SS, forall_const, wx, tguard, acallee, top, tval, fput, tor, vsh, vbin, vun, tload, tload2, tload3, tidx, tidx2, tidx3, tfa, tfa2, tlen2, tlen3, tpick, textr, tbox, one, tbuild, afill, Go.AM.splice, tbs, tbs2, tap, tap2, tap3, tap4, tsrc, tsrc2, Int.reduceEq, Int.reduceNeg, Nat.reduceGT, Nat.reduceLT, Nat.reduceLeDiff, Nat.reduceEqDiff, ↓reduceIte, reduceCtorEq, Int.reduceToNat, Int.reduceLE, Int.reduceLT, Nat.reduceAdd, Nat.reduceMul, hb, v4, v5, ff_38]) | (refine WK.condT ?_ ?_; focus (simp only [ev_tmp, ev_const, fset_apply, Nat.reduceEqDiff, ↓reduceIte, decide_true, decide_false, hb, v4, v5, ff_38]; done)) | (refine WK.condF ?_ ?_; focus (simp only [ev_tmp, ev_const, fset_apply, Nat.reduceEqDiff, ↓reduceIte, decide_true, decide_false, hb, v4, v5, ff_38]; done)))
      refine AtCall.by hcg ?_
      rintro v n2 H2 k2 ⟨p', rfl, hown⟩
      have hw2 := k2.wf hw1
      have hle2 := k2.le
      have hb2 := (k2.keep n (by omega)).trans hb
      have hdw : IntKind.i64.wrap ((dt : Int) + 1) = ((dt + 1 : Nat) : Int) := by rw [wrap_in (by omega) (by omega)]; rfl
      simp (config := { maxSteps := 1000000 }) only [SS, forall_const, wx, tguard, acallee, top, tval, fput, tor, vsh, vbin, vun, tload, tload2, tload3, tidx, tidx2, tidx3, tfa, tfa2, tlen2, tlen3, tpick, textr, tbox, one, tbuild, afill, Go.AM.splice, tbs, tbs2, tap, tap2, tap3, tap4, tsrc, tsrc2, Int.reduceEq, Int.reduceNeg, Nat.reduceGT, Nat.reduceLT, Nat.reduceLeDiff, Nat.reduceEqDiff, ↓reduceIte, reduceCtorEq, Int.reduceToNat, Int.reduceLE, Int.reduceLT, Nat.reduceAdd, Nat.reduceMul, ff_38]
      apply WK.skipSeq
      apply WK.seq
      refine WK.cut (fun s1 => ∃ p1, Kp (n + 1) H1 s1.n s1.H ∧ OwnS s1.H n p1 (stkL ru x.1) ∧ s1.f 7 = .slice p1 (stkL ru x.1).length (stkL ru x.1).length ∧ s1.f 0 = .pointer (some ⟨co, 0, none⟩) ∧ s1.f 3 = .pointer (some ⟨n, 0, none⟩) ∧ s1.f 6 = .int .i64 s) ?_ ?_
      · have hd4' : (ccell x)[2]? = some (.int .i64 (dt : Nat)) := hd4
        rw [hst']
        have hll : (x.1.stack ++ [(((r : Nat) : Int), ((dt + 1 : Nat) : Int))]).length = x.1.stack.length + 1 := by simp
        have hfl : (x.1.stack ++ [(((r : Nat) : Int), ((dt + 1 : Nat) : Int))]).flatMap spC = x.1.stack.flatMap spC ++ [.int .i64 (r : Nat), .int .i64 ((dt + 1 : Nat) : Int)] := by rw [List.flatMap_append, List.flatMap_singleton]; rfl
        have bl : x.1.stack.length + 1 ≤ bigN := by unfold bigN; omega
        by_cases hnil : x.1.stack = []
        · rw [if_pos (.inl hnil)]
          have hl0 : x.1.stack.length = 0 := by rw [hnil]; rfl
          repeat (first | apply WK.seq | apply WK.block | apply WK.skipSeq | apply WK.skipBlock | apply WK.retSeq | apply WK.retBlock | apply WK.exitSeq | apply WK.exitHere | refine WK.exitOn rfl ?_)
          (refine WK.rgn ?_ ?_; kernel_rfl; simp (config := { maxSteps := 1000000 }) only [SS, forall_const, wx, tguard, acallee, top, tval, fput, tor, vsh, vbin, vun, tload, tload2, tload3, tidx, tidx2, tidx3, tfa, tfa2, tlen2, tlen3, tpick, textr, tbox, one, tbuild, afill, Go.AM.splice, tbs, tbs2, tap, tap2, tap3, tap4, tsrc, tsrc2, Int.reduceEq, Int.reduceNeg, Nat.reduceGT, Nat.reduceLT, Nat.reduceLeDiff, Nat.reduceEqDiff, ↓reduceIte, reduceCtorEq, Int.reduceToNat, Int.reduceLE, Int.reduceLT, Nat.reduceAdd, Nat.reduceMul, hl0, h00, decide_true, ff_38])
          repeat (first | apply WK.seq | apply WK.block | apply WK.skipSeq | apply WK.skipBlock | apply WK.retSeq | apply WK.retBlock | apply WK.exitSeq | apply WK.exitHere | refine WK.exitOn rfl ?_)
          first | (refine WK.condT ?_ ?_; focus (simp only [ev_tmp, ev_const, fset_apply, Nat.reduceEqDiff, ↓reduceIte, decide_true, decide_false]; done)) | (refine WK.condF ?_ ?_; focus (simp only [ev_tmp, ev_const, fset_apply, Nat.reduceEqDiff, ↓reduceIte, decide_true, decide_false]; done))
          repeat (first | apply WK.seq | apply WK.block | apply WK.skipSeq | apply WK.skipBlock | apply WK.retSeq | apply WK.retBlock | apply WK.exitSeq | apply WK.exitHere | refine WK.exitOn rfl ?_)
          rcases hown with ⟨rfl, _⟩ | ⟨zo, rfl, hzo, hzc⟩
          · repeat (first | apply WK.seq | apply WK.block | apply WK.skipSeq | apply WK.skipBlock | apply WK.retSeq | apply WK.retBlock | apply WK.exitSeq | apply WK.exitHere | refine WK.exitOn rfl ?_ | ((first | (refine WK.rgn ?_ ?_; kernel_rfl) | refine AtCall.now ?_); simp (config := { maxSteps := 1000000 }) only [SS, forall_const, wx, tguard, acallee, top, tval, fput, tor, vsh, vbin, vun, tload, tload2, tload3, tidx, tidx2, tidx3, tfa, tfa2, tlen2, tlen3, tpick, textr, tbox, one, tbuild, afill, Go.AM.splice, tbs, tbs2, tap, tap2, tap3, tap4, tsrc, tsrc2, Int.reduceEq, Int.reduceNeg, Nat.reduceGT, Nat.reduceLT, Nat.reduceLeDiff, Nat.reduceEqDiff, ↓reduceIte, reduceCtorEq, Int.reduceToNat, Int.reduceLE, Int.reduceLT, Nat.reduceAdd, Nat.reduceMul, hl0, hb2, v3, hd4', hr, v5, hdw, hset_at, List.length_nil, ff_38]) | (refine WK.condT ?_ ?_; focus (simp only [ev_tmp, ev_const, fset_apply, Nat.reduceEqDiff, ↓reduceIte, decide_true, decide_false, hl0, hb2, v3, hd4', hr, v5, hdw, hset_at, List.length_nil, ff_38]; done)) | (refine WK.condF ?_ ?_; focus (simp only [ev_tmp, ev_const, fset_apply, Nat.reduceEqDiff, ↓reduceIte, decide_true, decide_false, hl0, hb2, v3, hd4', hr, v5, hdw, hset_at, List.length_nil, ff_38]; done)))
            refine WK.skipNil ⟨rfl, some ⟨n2 + 1, 0, none⟩, (k2.trans (Kp.new n2 _ _)).trans (Kp.new (n2 + 1) _ _), .inr ⟨n2 + 1, rfl, by omega, (hset_at _ _ _).trans (by rw [hfl, hnil]; rfl)⟩, ?_, ?_, ?_, ?_⟩
            · rw [hll, hl0]
              simp only [packed, fset_apply, Nat.reduceEqDiff, ↓reduceIte, List.getD_cons_zero, List.getD_cons_succ, ff_38]
            · simp only [packed, fset_apply, Nat.reduceEqDiff, ↓reduceIte, List.getD_cons_zero, List.getD_cons_succ, ff_38]
            · simp only [packed, fset_apply, Nat.reduceEqDiff, ↓reduceIte, List.getD_cons_zero, List.getD_cons_succ, ff_38]
            · simp only [packed, fset_apply, Nat.reduceEqDiff, ↓reduceIte, List.getD_cons_zero, List.getD_cons_succ, ff_38]
          · have hzn := live_lt hw2 (live_of hzc)
            rw [hnil] at hzc
            have hct : [n2].contains zo = false := by simp; omega
            have b1 : 1 ≤ bigN := by unfold bigN; omega
            repeat (first | apply WK.seq | apply WK.block | apply WK.skipSeq | apply WK.skipBlock | apply WK.retSeq | apply WK.retBlock | apply WK.exitSeq | apply WK.exitHere | refine WK.exitOn rfl ?_ | ((first | (refine WK.rgn ?_ ?_; kernel_rfl) | refine AtCall.now ?_); simp (config := { maxSteps := 1000000 }) only [SS, forall_const, wx, tguard, acallee, top, tval, fput, tor, vsh, vbin, vun, tload, tload2, tload3, tidx, tidx2, tidx3, tfa, tfa2, tlen2, tlen3, tpick, textr, tbox, one, tbuild, afill, Go.AM.splice, tbs, tbs2, tap, tap2, tap3, tap4, tsrc, tsrc2, Int.reduceEq, Int.reduceNeg, Nat.reduceGT, Nat.reduceLT, Nat.reduceLeDiff, Nat.reduceEqDiff, ↓reduceIte, reduceCtorEq, Int.reduceToNat, Int.reduceLE, Int.reduceLT, Nat.reduceAdd, Nat.reduceMul, hl0, hb2, v3, hd4', hr, v5, hdw, b1, hset_at, hzc, hct, (hset_ne H2 n2 · (show zo ≠ n2 by omega)), List.flatMap_nil, List.length_nil, List.take_nil, List.drop_nil, List.nil_append, Nat.zero_le, Nat.le_refl, Nat.zero_mul, Nat.zero_add, ff_38]) | (refine WK.condT ?_ ?_; focus (simp only [ev_tmp, ev_const, fset_apply, Nat.reduceEqDiff, ↓reduceIte, decide_true, decide_false, hl0, hb2, v3, hd4', hr, v5, hdw, b1, hset_at, hzc, hct, (hset_ne H2 n2 · (show zo ≠ n2 by omega)), List.flatMap_nil, List.length_nil, List.take_nil, List.drop_nil, List.nil_append, Nat.zero_le, Nat.le_refl, Nat.zero_mul, Nat.zero_add, ff_38]; done)) | (refine WK.condF ?_ ?_; focus (simp only [ev_tmp, ev_const, fset_apply, Nat.reduceEqDiff, ↓reduceIte, decide_true, decide_false, hl0, hb2, v3, hd4', hr, v5, hdw, b1, hset_at, hzc, hct, (hset_ne H2 n2 · (show zo ≠ n2 by omega)), List.flatMap_nil, List.length_nil, List.take_nil, List.drop_nil, List.nil_append, Nat.zero_le, Nat.le_refl, Nat.zero_mul, Nat.zero_add, ff_38]; done)))
            refine WK.skipNil ⟨rfl, some ⟨n2 + 1, 0, none⟩, ((k2.trans (Kp.new n2 _ _)).set (x := zo) .dead hzo (by omega)).trans (Kp.new (n2 + 1) _ _), .inr ⟨n2 + 1, rfl, by omega, (hset_at _ _ _).trans (by rw [hfl, hnil]; rfl)⟩, ?_, ?_, ?_, ?_⟩
            · rw [hll, hl0]
              simp only [packed, fset_apply, Nat.reduceEqDiff, ↓reduceIte, List.getD_cons_zero, List.getD_cons_succ, ff_38]
            · simp only [packed, fset_apply, Nat.reduceEqDiff, ↓reduceIte, List.getD_cons_zero, List.getD_cons_succ, ff_38]
            · simp only [packed, fset_apply, Nat.reduceEqDiff, ↓reduceIte, List.getD_cons_zero, List.getD_cons_succ, ff_38]
            · simp only [packed, fset_apply, Nat.reduceEqDiff, ↓reduceIte, List.getD_cons_zero, List.getD_cons_succ, ff_38]
        · have hl0 : x.1.stack.length ≠ 0 := fun e => hnil (List.eq_nil_of_length_eq_zero e)
          have hl0' : ((x.1.stack.length : Int) = 0) = False := eq_false (by omega)
          rcases hown with ⟨rfl, e⟩ | ⟨zo, rfl, hzo, hzc⟩
          · exact absurd e hnil
          have hzn := live_lt hw2 (live_of hzc)
          have hct : [n2].contains zo = false := by simp; omega
          have hfl2 : (x.1.stack.flatMap spC).length = x.1.stack.length * 2 := fm_len spC_len _
          have htk2 : (x.1.stack.flatMap spC).take (x.1.stack.length * 2) = x.1.stack.flatMap spC := List.take_of_length_le (by rw [hfl2]; exact Nat.le_refl _)
          have v12 : ∀ a b : Value, List.take 2 [a, b] = [a, b] := fun _ _ => rfl
          by_cases hcd : dt + 1 < ru.right.length
          · rw [if_pos (.inr hcd)]
            have hcd' : (((dt + 1 : Nat) : Int) < (ru.right.length : Int)) = True := eq_true (by omega)
            repeat (first | apply WK.seq | apply WK.block | apply WK.skipSeq | apply WK.skipBlock | apply WK.retSeq | apply WK.retBlock | apply WK.exitSeq | apply WK.exitHere | refine WK.exitOn rfl ?_ | ((first | (refine WK.rgn ?_ ?_; kernel_rfl) | refine AtCall.now ?_); simp (config := { maxSteps := 1000000 }) only [SS, forall_const, wx, tguard, acallee, top, tval, fput, tor, vsh, vbin, vun, tload, tload2, tload3, tidx, tidx2, tidx3, tfa, tfa2, tlen2, tlen3, tpick, textr, tbox, one, tbuild, afill, Go.AM.splice, tbs, tbs2, tap, tap2, tap3, tap4, tsrc, tsrc2, Int.reduceEq, Int.reduceNeg, Nat.reduceGT, Nat.reduceLT, Nat.reduceLeDiff, Nat.reduceEqDiff, ↓reduceIte, reduceCtorEq, Int.reduceToNat, Int.reduceLE, Int.reduceLT, Nat.reduceAdd, Nat.reduceMul, hl0', hb2, v3, hd4', hr, v5, hdw, hcd, hcd', bl, hset_at, hzc, hct, hfl2, htk2, v12, (hset_ne H2 n2 · (show zo ≠ n2 by omega)), List.drop_zero, Nat.le_refl, decide_true, decide_false, ff_38]) | (refine WK.condT ?_ ?_; focus (simp only [ev_tmp, ev_const, fset_apply, Nat.reduceEqDiff, ↓reduceIte, decide_true, decide_false, hl0', hb2, v3, hd4', hr, v5, hdw, hcd, hcd', bl, hset_at, hzc, hct, hfl2, htk2, v12, (hset_ne H2 n2 · (show zo ≠ n2 by omega)), List.drop_zero, Nat.le_refl, decide_true, decide_false, ff_38]; done)) | (refine WK.condF ?_ ?_; focus (simp only [ev_tmp, ev_const, fset_apply, Nat.reduceEqDiff, ↓reduceIte, decide_true, decide_false, hl0', hb2, v3, hd4', hr, v5, hdw, hcd, hcd', bl, hset_at, hzc, hct, hfl2, htk2, v12, (hset_ne H2 n2 · (show zo ≠ n2 by omega)), List.drop_zero, Nat.le_refl, decide_true, decide_false, ff_38]; done)))
            refine WK.skipNil ⟨rfl, some ⟨n2 + 1, 0, none⟩, ((k2.trans (Kp.new n2 _ _)).set (x := zo) .dead hzo (by omega)).trans (Kp.new (n2 + 1) _ _), .inr ⟨n2 + 1, rfl, by omega, (hset_at _ _ _).trans (by rw [hfl])⟩, ?_, ?_, ?_, ?_⟩
            · rw [hll]
              simp only [packed, fset_apply, Nat.reduceEqDiff, ↓reduceIte, List.getD_cons_zero, List.getD_cons_succ, ff_38]
            · simp only [packed, fset_apply, Nat.reduceEqDiff, ↓reduceIte, List.getD_cons_zero, List.getD_cons_succ, ff_38]
            · simp only [packed, fset_apply, Nat.reduceEqDiff, ↓reduceIte, List.getD_cons_zero, List.getD_cons_succ, ff_38]
            · simp only [packed, fset_apply, Nat.reduceEqDiff, ↓reduceIte, List.getD_cons_zero, List.getD_cons_succ, ff_38]
          · rw [if_neg (fun h => h.elim hnil hcd)]
            have hcd' : (((dt + 1 : Nat) : Int) < (ru.right.length : Int)) = False := eq_false (by omega)
            repeat (first | apply WK.seq | apply WK.block | apply WK.skipSeq | apply WK.skipBlock | apply WK.retSeq | apply WK.retBlock | apply WK.exitSeq | apply WK.exitHere | refine WK.exitOn rfl ?_ | ((first | (refine WK.rgn ?_ ?_; kernel_rfl) | refine AtCall.now ?_); simp (config := { maxSteps := 1000000 }) only [SS, forall_const, wx, tguard, acallee, top, tval, fput, tor, vsh, vbin, vun, tload, tload2, tload3, tidx, tidx2, tidx3, tfa, tfa2, tlen2, tlen3, tpick, textr, tbox, one, tbuild, afill, Go.AM.splice, tbs, tbs2, tap, tap2, tap3, tap4, tsrc, tsrc2, Int.reduceEq, Int.reduceNeg, Nat.reduceGT, Nat.reduceLT, Nat.reduceLeDiff, Nat.reduceEqDiff, ↓reduceIte, reduceCtorEq, Int.reduceToNat, Int.reduceLE, Int.reduceLT, Nat.reduceAdd, Nat.reduceMul, hl0', hb2, v3, hd4', hr, v5, hdw, hcd, hcd', decide_true, decide_false, ff_38]) | (refine WK.condT ?_ ?_; focus (simp only [ev_tmp, ev_const, fset_apply, Nat.reduceEqDiff, ↓reduceIte, decide_true, decide_false, hl0', hb2, v3, hd4', hr, v5, hdw, hcd, hcd', decide_true, decide_false, ff_38]; done)) | (refine WK.condF ?_ ?_; focus (simp only [ev_tmp, ev_const, fset_apply, Nat.reduceEqDiff, ↓reduceIte, decide_true, decide_false, hl0', hb2, v3, hd4', hr, v5, hdw, hcd, hcd', decide_true, decide_false, ff_38]; done)))
            refine WK.skipNil ⟨rfl, some ⟨zo, 0, none⟩, k2, .inr ⟨zo, rfl, by omega, hzc⟩, ?_, ?_, ?_, ?_⟩
            · simp only [packed, fset_apply, Nat.reduceEqDiff, ↓reduceIte, List.getD_cons_zero, List.getD_cons_succ, ff_38]
            · simp only [packed, fset_apply, Nat.reduceEqDiff, ↓reduceIte, List.getD_cons_zero, List.getD_cons_succ, ff_38]
            · simp only [packed, fset_apply, Nat.reduceEqDiff, ↓reduceIte, List.getD_cons_zero, List.getD_cons_succ, ff_38]
            · simp only [packed, fset_apply, Nat.reduceEqDiff, ↓reduceIte, List.getD_cons_zero, List.getD_cons_succ, ff_38]
      · rintro ⟨f, n3, H3⟩ ⟨p1, k3, hown3, f7, f0, f3, f6⟩
        simp only at k3 hown3 f7 f0 f3 f6
        have k13 := k1.trans k3
        have hw3 := k13.wf hw
        have hle3 := k3.le
        have hc3 := hc1.kp hw1 k3
        have k03 := k0.trans k13
        have ne3 := ne.mono hw0 k03
        have hb3 := (k3.keep n (by omega)).trans hb
        have hg3 : RG H3 (.agg (gcells pt pv pr g).toArray) g := ⟨_, _, _, rfl, ne3.tms, ne3.vrs, ne3.rls⟩
        have v13 : ∀ a b c d : Value, ([a, b, c, d].drop 0).take 3 = [a, b, c] := fun _ _ _ _ => rfl
        have hgc : Value.agg (gcells pt pv pr g).toArray = .agg #[.slice pt g.terms.length g.terms.length, .slice pv g.vars.length g.vars.length, .slice pr g.rules.length g.rules.length] := rfl
        have hrg2 := rules_gives (v := s) hw3 hg3 ok
        rw [hgc] at hrg2
        generalize hSL : stkL ru x.1 = SL at *
        repeat (first | apply WK.seq | apply WK.block | apply WK.skipSeq | apply WK.skipBlock | apply WK.retSeq | apply WK.retBlock | apply WK.exitSeq | apply WK.exitHere | refine WK.exitOn rfl ?_ | ((first | (refine WK.rgn ?_ ?_; kernel_rfl) | refine AtCall.now ?_); simp (config := { maxSteps := 1000000 }) only [SS, forall_const, wx, tguard, acallee, top, tval, fput, tor, vsh, vbin, vun, tload, tload2, tload3, tidx, tidx2, tidx3, tfa, tfa2, tlen2, tlen3, tpick, textr, tbox, one, tbuild, afill, Go.AM.splice, tbs, tbs2, tap, tap2, tap3, tap4, tsrc, tsrc2, Int.reduceEq, Int.reduceNeg, Nat.reduceGT, Nat.reduceLT, Nat.reduceLeDiff, Nat.reduceEqDiff, ↓reduceIte, reduceCtorEq, Int.reduceToNat, Int.reduceLE, Int.reduceLT, Nat.reduceAdd, Nat.reduceMul, f0, f6, hc3.obj, ne3.net, v13, aop_nc, tnc, ff_38]) | (refine WK.condT ?_ ?_; focus (simp only [ev_tmp, ev_const, fset_apply, Nat.reduceEqDiff, ↓reduceIte, decide_true, decide_false, f0, f6, hc3.obj, ne3.net, v13, aop_nc, tnc, ff_38]; done)) | (refine WK.condF ?_ ?_; focus (simp only [ev_tmp, ev_const, fset_apply, Nat.reduceEqDiff, ↓reduceIte, decide_true, decide_false, f0, f6, hc3.obj, ne3.net, v13, aop_nc, tnc, ff_38]; done)))
        refine AtCall.by hrg2 ?_
        rintro v n4 H4 k4 ⟨a, b, rfl, hab, hbl, hix⟩
        rw [ruleIx_eq hab hbl hix]
        have k14 := k13.trans k4
        have hw4 := k14.wf hw
        have hle4 := k4.le
        have hb4 := (k4.keep n (by omega)).trans hb3
        have hc4 := hc3.kp hw3 k4
        have hx4 : XC H4 (⟨0, 0, 0, SL⟩, p1) := (hown3.xc 0 0 0).keep (Kp.spk hw3 k4)
        have hSLl : SL.length ≤ 131072 := by
          rw [← hSL]; unfold stkL; split
          · simp; omega
          · omega
        have haway : Away n ys S vt := by
          refine ⟨fun hne e => ?_, fun k m c e => ?_⟩
          · obtain ⟨cs, h1, _⟩ := hc.seen hne
            have := live_lt hw (live_of h1); omega
          · rcases hc.todo with ⟨e1, _⟩ | ⟨yt, cs, e1, _, e3, _⟩
            · rw [e1] at e; cases e
            · rw [e1] at e; cases e
              have := live_lt hw (live_of e3); omega
        have hcon := live_lt hw (live_of hc.obj)
        have xck : ∀ {H : Heap} {a r d a' r' d' : Int} {l : List (Int × Int)} {p : Option Addr}, XC H (⟨a, r, d, l⟩, p) → XC H (⟨a', r', d', l⟩, p) := fun h => h
        simp (config := { maxSteps := 1000000 }) only [SS, forall_const, wx, tguard, acallee, top, tval, fput, tor, vsh, vbin, vun, tload, tload2, tload3, tidx, tidx2, tidx3, tfa, tfa2, tlen2, tlen3, tpick, textr, tbox, one, tbuild, afill, Go.AM.splice, tbs, tbs2, tap, tap2, tap3, tap4, tsrc, tsrc2, Int.reduceEq, Int.reduceNeg, Nat.reduceGT, Nat.reduceLT, Nat.reduceLeDiff, Nat.reduceEqDiff, ↓reduceIte, reduceCtorEq, Int.reduceToNat, Int.reduceLE, Int.reduceLT, Nat.reduceAdd, Nat.reduceMul, List.toList_toArray, ff_38]
        repeat (first | apply WK.seq | apply WK.block | apply WK.skipSeq | apply WK.skipBlock | apply WK.retSeq | apply WK.retBlock | apply WK.exitSeq | apply WK.exitHere | refine WK.exitOn rfl ?_ | ((first | (refine WK.rgn ?_ ?_; kernel_rfl) | refine AtCall.now ?_); simp (config := { maxSteps := 1000000 }) only [SS, forall_const, wx, tguard, acallee, top, tval, fput, tor, vsh, vbin, vun, tload, tload2, tload3, tidx, tidx2, tidx3, tfa, tfa2, tlen2, tlen3, tpick, textr, tbox, one, tbuild, afill, Go.AM.splice, tbs, tbs2, tap, tap2, tap3, tap4, tsrc, tsrc2, Int.reduceEq, Int.reduceNeg, Nat.reduceGT, Nat.reduceLT, Nat.reduceLeDiff, Nat.reduceEqDiff, ↓reduceIte, reduceCtorEq, Int.reduceToNat, Int.reduceLE, Int.reduceLT, Nat.reduceAdd, Nat.reduceMul, ff_38]) | (refine WK.condT ?_ ?_; focus (simp only [ev_tmp, ev_const, fset_apply, Nat.reduceEqDiff, ↓reduceIte, decide_true, decide_false, ff_38]; done)) | (refine WK.condF ?_ ?_; focus (simp only [ev_tmp, ev_const, fset_apply, Nat.reduceEqDiff, ↓reduceIte, decide_true, decide_false, ff_38]; done)))
        refine WK.loop (fun kk s1 => ∃ (i : Nat) (S3 T3 : List CA) (ys3 : Nat) (vt3 : Value), Kx (fun z => N ≤ z) n H s1.n s1.H ∧ SpK H s1.H ∧ CO s1.H N co nn ys3 S3 T3 vt3 deep most ∧ Away n ys3 S3 vt3 ∧ Comes deep most S T ((List.range' a (i - a)).map fun i => ⟨x.1.alt, (i : Nat), 0, SL⟩) true S3 T3 ∧ XC s1.H (⟨0, 0, 0, SL⟩, p1) ∧
          s1.H n = .cells (ccell x) 47 true ∧ n < s1.n ∧ s1.f 0 = .pointer (some ⟨co, 0, none⟩) ∧ s1.f 3 = .pointer (some ⟨n, 0, none⟩) ∧ s1.f 7 = .slice p1 SL.length SL.length ∧ s1.f 9 = .int .i64 (b : Nat) ∧ s1.f 10 = .int .i64 (i : Nat) ∧ a ≤ i ∧ i ≤ b ∧ kk = b - i) (b - a) ?_ ?_
        · exact ⟨a, S, T, ys, vt, k14.kx, Kp.spk hw k14, hc4, haway, by rw [Nat.sub_self]; exact .nil _ _, hx4, hb4, by show n < n4; omega, f0, f3, f7, rfl, rfl, Nat.le_refl _, hab, rfl⟩
        clear f0 f3 f6 f7
        rintro kk ⟨f, n5, H5⟩ ⟨i, S3, T3, ys3, vt3, k5, sp5, hc5, ha5, hcs5, hx5, hb5, hn5, f0, f3, f7, f9, f10, hai, hib, rfl⟩ ih
        simp only at k5 sp5 hc5 ha5 hx5 hb5 hn5 f0 f3 f7 f9 f10 ih
        have k05 : Kp N H0 n5 H5 := ((k0.kx (X := fun z => N ≤ z)).trans k5).kp fun q h1 h2 => by omega
        have hw5 := k05.wf hw0
        by_cases hlt : i < b
        · have hiw : IntKind.i64.wrap ((i : Int) + 1) = ((i + 1 : Nat) : Int) := by have := ok.rules; rw [wrap_in (by omega) (by omega)]; rfl
          have hcm2 := come_gives (x := (⟨x.1.alt, ((i : Nat) : Int), 0, SL⟩, p1)) hw5 hc5 (xck hx5) k05.le hm hdm hSLl
          have hran : List.range' a (i + 1 - a) = List.range' a (i - a) ++ [i] := by
            have e : a + 1 * (i - a) = i := by omega
            rw [show i + 1 - a = (i - a) + 1 by omega, List.range'_concat, e]
          have hrest : List.range' a (b - a) = List.range' a (i - a) ++ i :: List.range' (i + 1) (b - (i + 1)) := by
            have e : a + (i - a) = i := by omega
            rw [show b - a = (i - a) + ((b - (i + 1)) + 1) by omega, ← List.range'_append_1, e, List.range'_succ]
          have hcon5 := live_lt hw5 (live_of hc5.obj)
          repeat (first | apply WK.seq | apply WK.block | apply WK.skipSeq | apply WK.skipBlock | apply WK.retSeq | apply WK.retBlock | apply WK.exitSeq | apply WK.exitHere | refine WK.exitOn rfl ?_ | ((first | (refine WK.rgn ?_ ?_; kernel_rfl) | refine AtCall.now ?_); simp (config := { maxSteps := 1000000 }) only [SS, forall_const, wx, tguard, acallee, top, tval, fput, tor, vsh, vbin, vun, tload, tload2, tload3, tidx, tidx2, tidx3, tfa, tfa2, tlen2, tlen3, tpick, textr, tbox, one, tbuild, afill, Go.AM.splice, tbs, tbs2, tap, tap2, tap3, tap4, tsrc, tsrc2, Int.reduceEq, Int.reduceNeg, Nat.reduceGT, Nat.reduceLT, Nat.reduceLeDiff, Nat.reduceEqDiff, ↓reduceIte, reduceCtorEq, Int.reduceToNat, Int.reduceLE, Int.reduceLT, Nat.reduceAdd, Nat.reduceMul, f0, f3, f7, f9, f10, hlt, hb5, v0, v5, ff_38]) | (refine WK.condT ?_ ?_; focus (simp only [ev_tmp, ev_const, fset_apply, Nat.reduceEqDiff, ↓reduceIte, decide_true, decide_false, f0, f3, f7, f9, f10, hlt, hb5, v0, v5, ff_38]; done)) | (refine WK.condF ?_ ?_; focus (simp only [ev_tmp, ev_const, fset_apply, Nat.reduceEqDiff, ↓reduceIte, decide_true, decide_false, f0, f3, f7, f9, f10, hlt, hb5, v0, v5, ff_38]; done)))
          refine AtCall.byX hcm2 ?_
          rintro v n6 H6 k6 ⟨sp6, hst6, hres⟩
          have hle6 := k6.le
          rcases hres with ⟨rfl, hbad⟩ | ⟨rfl, ys', S', T', vt', hco, haw, hcome⟩
          · simp (config := { maxSteps := 1000000 }) only [SS, forall_const, wx, tguard, acallee, top, tval, fput, tor, vsh, vbin, vun, tload, tload2, tload3, tidx, tidx2, tidx3, tfa, tfa2, tlen2, tlen3, tpick, textr, tbox, one, tbuild, afill, Go.AM.splice, tbs, tbs2, tap, tap2, tap3, tap4, tsrc, tsrc2, Int.reduceEq, Int.reduceNeg, Nat.reduceGT, Nat.reduceLT, Nat.reduceLeDiff, Nat.reduceEqDiff, ↓reduceIte, reduceCtorEq, Int.reduceToNat, Int.reduceLE, Int.reduceLT, Nat.reduceAdd, Nat.reduceMul, Bool.not_false, ff_38]
            repeat (first | apply WK.seq | apply WK.block | apply WK.skipSeq | apply WK.skipBlock | apply WK.retSeq | apply WK.retBlock | apply WK.exitSeq | apply WK.exitHere | refine WK.exitOn rfl ?_ | ((first | (refine WK.rgn ?_ ?_; kernel_rfl) | refine AtCall.now ?_); simp (config := { maxSteps := 1000000 }) only [SS, forall_const, wx, tguard, acallee, top, tval, fput, tor, vsh, vbin, vun, tload, tload2, tload3, tidx, tidx2, tidx3, tfa, tfa2, tlen2, tlen3, tpick, textr, tbox, one, tbuild, afill, Go.AM.splice, tbs, tbs2, tap, tap2, tap3, tap4, tsrc, tsrc2, Int.reduceEq, Int.reduceNeg, Nat.reduceGT, Nat.reduceLT, Nat.reduceLeDiff, Nat.reduceEqDiff, ↓reduceIte, reduceCtorEq, Int.reduceToNat, Int.reduceLE, Int.reduceLT, Nat.reduceAdd, Nat.reduceMul, ff_38]) | (refine WK.condT ?_ ?_; focus (simp only [ev_tmp, ev_const, fset_apply, Nat.reduceEqDiff, ↓reduceIte, decide_true, decide_false, ff_38]; done)) | (refine WK.condF ?_ ?_; focus (simp only [ev_tmp, ev_const, fset_apply, Nat.reduceEqDiff, ↓reduceIte, decide_true, decide_false, ff_38]; done)))
            (first | refine WK.retNil ⟨Or.inr rfl, _, rfl, ?_, ?_⟩ | refine WK.skipNil ⟨Or.inl rfl, _, rfl, ?_, ?_⟩)
            · exact (k5.trans k6).keep
            · simp only [packed, fset_apply, Nat.reduceEqDiff, ↓reduceIte, List.getD_cons_zero, List.getD_cons_succ, ff_38]
              refine ⟨sp5.trans sp6, false, S3, T3, rfl, ?_, fun e => by cases e⟩
              rw [hrest, List.map_append]
              exact hcs5.app rfl (.fail hbad)
          · simp (config := { maxSteps := 1000000 }) only [SS, forall_const, wx, tguard, acallee, top, tval, fput, tor, vsh, vbin, vun, tload, tload2, tload3, tidx, tidx2, tidx3, tfa, tfa2, tlen2, tlen3, tpick, textr, tbox, one, tbuild, afill, Go.AM.splice, tbs, tbs2, tap, tap2, tap3, tap4, tsrc, tsrc2, Int.reduceEq, Int.reduceNeg, Nat.reduceGT, Nat.reduceLT, Nat.reduceLeDiff, Nat.reduceEqDiff, ↓reduceIte, reduceCtorEq, Int.reduceToNat, Int.reduceLE, Int.reduceLT, Nat.reduceAdd, Nat.reduceMul, Bool.not_true, ff_38]
            repeat (first | apply WK.seq | apply WK.block | apply WK.skipSeq | apply WK.skipBlock | apply WK.retSeq | apply WK.retBlock | apply WK.exitSeq | apply WK.exitHere | refine WK.exitOn rfl ?_ | ((first | (refine WK.rgn ?_ ?_; kernel_rfl) | refine AtCall.now ?_); simp (config := { maxSteps := 1000000 }) only [SS, forall_const, wx, tguard, acallee, top, tval, fput, tor, vsh, vbin, vun, tload, tload2, tload3, tidx, tidx2, tidx3, tfa, tfa2, tlen2, tlen3, tpick, textr, tbox, one, tbuild, afill, Go.AM.splice, tbs, tbs2, tap, tap2, tap3, tap4, tsrc, tsrc2, Int.reduceEq, Int.reduceNeg, Nat.reduceGT, Nat.reduceLT, Nat.reduceLeDiff, Nat.reduceEqDiff, ↓reduceIte, reduceCtorEq, Int.reduceToNat, Int.reduceLE, Int.reduceLT, Nat.reduceAdd, Nat.reduceMul, f10, hiw, ff_38]) | (refine WK.condT ?_ ?_; focus (simp only [ev_tmp, ev_const, fset_apply, Nat.reduceEqDiff, ↓reduceIte, decide_true, decide_false, f10, hiw, ff_38]; done)) | (refine WK.condF ?_ ?_; focus (simp only [ev_tmp, ev_const, fset_apply, Nat.reduceEqDiff, ↓reduceIte, decide_true, decide_false, f10, hiw, ff_38]; done)))
            exact ih (b - (i + 1)) (by omega) _ ⟨i + 1, S', T', ys', vt', k5.trans k6, sp5.trans sp6, hco, haw n (by omega) ha5, by rw [hran, List.map_append]; exact hcs5.app rfl (.cons hcome (.nil _ _)), hx5.keep sp6, (hst6 n (by omega) (by omega) ha5).trans hb5, by show n < n6; omega, f0, f3, f7, f9, rfl, by omega, hlt, rfl⟩
        · obtain rfl : i = b := by omega
          repeat (first | apply WK.seq | apply WK.block | apply WK.skipSeq | apply WK.skipBlock | apply WK.retSeq | apply WK.retBlock | apply WK.exitSeq | apply WK.exitHere | refine WK.exitOn rfl ?_ | ((first | (refine WK.rgn ?_ ?_; kernel_rfl) | refine AtCall.now ?_); simp (config := { maxSteps := 1000000 }) only [SS, forall_const, wx, tguard, acallee, top, tval, fput, tor, vsh, vbin, vun, tload, tload2, tload3, tidx, tidx2, tidx3, tfa, tfa2, tlen2, tlen3, tpick, textr, tbox, one, tbuild, afill, Go.AM.splice, tbs, tbs2, tap, tap2, tap3, tap4, tsrc, tsrc2, Int.reduceEq, Int.reduceNeg, Nat.reduceGT, Nat.reduceLT, Nat.reduceLeDiff, Nat.reduceEqDiff, ↓reduceIte, reduceCtorEq, Int.reduceToNat, Int.reduceLE, Int.reduceLT, Nat.reduceAdd, Nat.reduceMul, f9, f10, Nat.lt_irrefl, Int.lt_irrefl, ff_38]) | (refine WK.condT ?_ ?_; focus (simp only [ev_tmp, ev_const, fset_apply, Nat.reduceEqDiff, ↓reduceIte, decide_true, decide_false, f9, f10, Nat.lt_irrefl, Int.lt_irrefl, ff_38]; done)) | (refine WK.condF ?_ ?_; focus (simp only [ev_tmp, ev_const, fset_apply, Nat.reduceEqDiff, ↓reduceIte, decide_true, decide_false, f9, f10, Nat.lt_irrefl, Int.lt_irrefl, ff_38]; done)))
          (first | refine WK.retNil ⟨Or.inr rfl, _, rfl, ?_, ?_⟩ | refine WK.skipNil ⟨Or.inl rfl, _, rfl, ?_, ?_⟩)
          · exact k5.keep
          · simp only [packed, fset_apply, Nat.reduceEqDiff, ↓reduceIte, List.getD_cons_zero, List.getD_cons_succ, ff_38]
            exact ⟨sp5, true, S3, T3, rfl, hcs5, fun _ => ⟨ys3, vt3, hc5⟩⟩
    · rw [if_neg hvar]
      have hvar' : (0 ≤ ru.right[dt]) = False := eq_false hvar
      simp (config := { maxSteps := 1000000 }) only [SS, forall_const, wx, tguard, acallee, top, tval, fput, tor, vsh, vbin, vun, tload, tload2, tload3, tidx, tidx2, tidx3, tfa, tfa2, tlen2, tlen3, tpick, textr, tbox, one, tbuild, afill, Go.AM.splice, tbs, tbs2, tap, tap2, tap3, tap4, tsrc, tsrc2, Int.reduceEq, Int.reduceNeg, Nat.reduceGT, Nat.reduceLT, Nat.reduceLeDiff, Nat.reduceEqDiff, ↓reduceIte, reduceCtorEq, Int.reduceToNat, Int.reduceLE, Int.reduceLT, Nat.reduceAdd, Nat.reduceMul, hvar', decide_false, Bool.not_false, ff_38]
      repeat (first | apply WK.seq | apply WK.block | apply WK.skipSeq | apply WK.skipBlock | apply WK.retSeq | apply WK.retBlock | apply WK.exitSeq | apply WK.exitHere | refine WK.exitOn rfl ?_ | ((first | (refine WK.rgn ?_ ?_; kernel_rfl) | refine AtCall.now ?_); simp (config := { maxSteps := 1000000 }) only [SS, forall_const, wx, tguard, acallee, top, tval, fput, tor, vsh, vbin, vun, tload, tload2, tload3, tidx, tidx2, tidx3, tfa, tfa2, tlen2, tlen3, tpick, textr, tbox, one, tbuild, afill, Go.AM.splice, tbs, tbs2, tap, tap2, tap3, tap4, tsrc, tsrc2, Int.reduceEq, Int.reduceNeg, Nat.reduceGT, Nat.reduceLT, Nat.reduceLeDiff, Nat.reduceEqDiff, ↓reduceIte, reduceCtorEq, Int.reduceToNat, Int.reduceLE, Int.reduceLT, Nat.reduceAdd, Nat.reduceMul, ff_38]) | (refine WK.condT ?_ ?_; focus (simp only [ev_tmp, ev_const, fset_apply, Nat.reduceEqDiff, ↓reduceIte, decide_true, decide_false, ff_38]; done)) | (refine WK.condF ?_ ?_; focus (simp only [ev_tmp, ev_const, fset_apply, Nat.reduceEqDiff, ↓reduceIte, decide_true, decide_false, ff_38]; done)))
      (first | refine WK.retNil ⟨Or.inr rfl, _, rfl, ?_, ?_⟩ | refine WK.skipNil ⟨Or.inl rfl, _, rfl, ?_, ?_⟩)
      · exact k1.kx.keep
      · simp only [packed, fset_apply, Nat.reduceEqDiff, ↓reduceIte, List.getD_cons_zero, List.getD_cons_succ, ff_38]
        exact ⟨sp1, true, S, T, rfl, .nil _ _, fun _ => ⟨ys, vt, hc1⟩⟩
end Go.Proofs.Ytfbdababcdfjfaa
