/- A part of a proof. Its conditions: none. -/
import Derived.Test.YtplnndgdklfnfaaAmLfReach
import Derived.Test.YtplnndgdklfnfaaAmC
set_option linter.all false
namespace Go.Proofs.Ytplnndgdklfnfaa
open Go.AM

set_option maxHeartbeats 4000000 in
theorem recursive_gives {v : Value} {g : Gram} {n : Nat} {H : Heap} (hw : WF n H) (hg : RG H v g) (wg : WG g) (ok : RightOK g) :
    Gives Try.prog 11 [v] n H fun v _ H' => ∃ (rc : List Bool) (x : Nat), n ≤ x ∧ v = .slice (some ⟨x, 0, none⟩) g.vars.length g.vars.length ∧ H' x = .cells (rc.map .bool) 4 true ∧ rc.length = g.vars.length ∧ ∀ (v : Nat) (h : v < rc.length), rc[v] = true ↔ Rch g v v := by
  have hg0 := hg
  obtain ⟨pt, pv, pr, rfl, ht, hv, hr⟩ := hg
  refine Gives.of orders ok11 (Nat.le_of_ble_eq_true rfl) ?_
  have hk := Kp.new n H (.cells (gcells pt pv pr g) 25 true)
  have hb := hset_at H n (.cells (gcells pt pv pr g) 25 true)
  have hi := ok.inG
  have hv64 := ok.vars
  have hvl : (g.vars.length : Int) ≤ bigN := by unfold bigN; omega
-- function 11
  repeat (first | apply WK.seq | apply WK.block | apply WK.skipSeq | apply WK.skipBlock | apply WK.retSeq | apply WK.retBlock | apply WK.exitSeq | apply WK.exitHere | refine WK.exitOn rfl ?_)
  (refine WK.rgn ?_ ?_; kernel_rfl; simp (config := { maxSteps := 1000000 }) only [SS, forall_const, wx, tguard, acallee, top, tval, tor, tload, tload2, tload3, tstore, tstore2, tstore3, tidx, tidx2, tfa, tfa2, tlen2, tpick, textr, tbox, talloc, tmake, tbuild, tbs, tbs2, tfld, tfld2, tsl, tsl2, tsl3, tix, tix1, tix2, tap, tap2, tap3, tap4, tsrc, tsrc2, Int.reduceEq, Int.reduceNeg, Go.AM.bound, afill, Nat.reduceGT, Nat.reduceLT, still, still1, flat1, one, Go.AM.splice, Nat.reduceLeDiff, vsh, vbin, vun, vconv, fput, Nat.reduceEqDiff, ↓reduceIte, reduceCtorEq, Int.reduceToNat, Int.reduceLE, Int.reduceLT, Nat.reduceAdd, Nat.reduceMul, box_cells, box_one, ff_11])
  generalize hset H n (.cells (gcells pt pv pr g) 25 true) = H1 at *
  repeat (first | apply WK.seq | apply WK.block | apply WK.skipSeq | apply WK.skipBlock | apply WK.retSeq | apply WK.retBlock | apply WK.exitSeq | apply WK.exitHere | refine WK.exitOn rfl ?_)
  (refine WK.rgn ?_ ?_; kernel_rfl; simp (config := { maxSteps := 1000000 }) only [SS, forall_const, wx, tguard, acallee, top, tval, tor, tload, tload2, tload3, tstore, tstore2, tstore3, tidx, tidx2, tfa, tfa2, tlen2, tpick, textr, tbox, talloc, tmake, tbuild, tbs, tbs2, tfld, tfld2, tsl, tsl2, tsl3, tix, tix1, tix2, tap, tap2, tap3, tap4, tsrc, tsrc2, Int.reduceEq, Int.reduceNeg, Go.AM.bound, afill, Nat.reduceGT, Nat.reduceLT, still, still1, flat1, one, Go.AM.splice, Nat.reduceLeDiff, vsh, vbin, vun, vconv, fput, Nat.reduceEqDiff, ↓reduceIte, reduceCtorEq, Int.reduceToNat, Int.reduceLE, Int.reduceLT, Nat.reduceAdd, Nat.reduceMul, hb, gc_0, gc_1, gc_2, hvl, ff_11])
  rw [rep_map]
  have k1 := Kp.new (n + 1) H1 (.cells ((List.replicate g.vars.length false).map .bool) 4 true)
  have b1 := hset_at H1 (n + 1) (.cells ((List.replicate g.vars.length false).map .bool) 4 true)
  have b0 := (k1.keep n (by omega)).trans hb
  generalize hset H1 (n + 1) (.cells ((List.replicate g.vars.length false).map .bool) 4 true) = H2 at *
  have kk := hk.trans k1
  repeat (first | apply WK.seq | apply WK.block | apply WK.skipSeq | apply WK.skipBlock | apply WK.retSeq | apply WK.retBlock | apply WK.exitSeq | apply WK.exitHere | refine WK.exitOn rfl ?_)
  (refine WK.rgn ?_ ?_; kernel_rfl; simp (config := { maxSteps := 1000000 }) only [SS, forall_const, wx, tguard, acallee, top, tval, tor, tload, tload2, tload3, tstore, tstore2, tstore3, tidx, tidx2, tfa, tfa2, tlen2, tpick, textr, tbox, talloc, tmake, tbuild, tbs, tbs2, tfld, tfld2, tsl, tsl2, tsl3, tix, tix1, tix2, tap, tap2, tap3, tap4, tsrc, tsrc2, Int.reduceEq, Int.reduceNeg, Go.AM.bound, afill, Nat.reduceGT, Nat.reduceLT, still, still1, flat1, one, Go.AM.splice, Nat.reduceLeDiff, vsh, vbin, vun, vconv, fput, Nat.reduceEqDiff, ↓reduceIte, reduceCtorEq, Int.reduceToNat, Int.reduceLE, Int.reduceLT, Nat.reduceAdd, Nat.reduceMul, b0, gc_len, gc_all, ff_11])
  refine AtCall.by (reach_gives (kk.wf hw) (hg0.mono hw kk) wg ok) ?_
  rintro v nb Hb kb ⟨rows, ys, x, hx0, rfl, L, hrl, hgood⟩
  simp (config := { maxSteps := 1000000 }) only [SS, forall_const, wx, tguard, acallee, top, tval, tor, tload, tload2, tload3, tstore, tstore2, tstore3, tidx, tidx2, tfa, tfa2, tlen2, tpick, textr, tbox, talloc, tmake, tbuild, tbs, tbs2, tfld, tfld2, tsl, tsl2, tsl3, tix, tix1, tix2, tap, tap2, tap3, tap4, tsrc, tsrc2, Int.reduceEq, Int.reduceNeg, Go.AM.bound, afill, Nat.reduceGT, Nat.reduceLT, still, still1, flat1, one, Go.AM.splice, Nat.reduceLeDiff, vsh, vbin, vun, vconv, fput, Nat.reduceEqDiff, ↓reduceIte, reduceCtorEq, Int.reduceToNat, Int.reduceLE, Int.reduceLT, Nat.reduceAdd, Nat.reduceMul, ff_11]
  repeat (first | apply WK.seq | apply WK.block | apply WK.skipSeq | apply WK.skipBlock | apply WK.retSeq | apply WK.retBlock | apply WK.exitSeq | apply WK.exitHere | refine WK.exitOn rfl ?_)
  have kb2 := kk.trans kb
  have wb := kb2.wf hw
  have hnb := kb.le
  replace b1 := (kb.keep _ (by omega)).trans b1
  refine WK.loop (fun k s => ∃ (i : Nat) (rc : List Bool), s.n = nb ∧ (∀ z, z ≠ n + 1 → s.H z = Hb z) ∧ s.H (n + 1) = .cells (rc.map .bool) 4 true ∧ rc.length = g.vars.length ∧ s.f 3 = .slice (some ⟨n + 1, 0, none⟩) g.vars.length g.vars.length ∧ s.f 11 = .slice (some ⟨x, 0, none⟩) g.vars.length g.vars.length ∧
      s.f 12 = .int .i64 g.vars.length ∧ s.f 13 = .int .i64 (i : Nat) ∧ i ≤ g.vars.length ∧ (∀ v (h : v < rc.length), v < i → (rc[v] = true ↔ Rch g v v)) ∧ k = g.vars.length - i) g.vars.length ?_ ?_
  · exact ⟨0, _, rfl, fun _ _ => rfl, b1, by simp, rfl, rfl, rfl, rfl, Nat.zero_le _, (fun v h hv => by omega), rfl⟩
  rintro kk' ⟨f, n4, H4⟩ ⟨i, rc, rfl, hkeep, hx, hrc, f3, f11, f12, f13, hiv, hdone, rfl⟩ ih
  simp only at f3 f11 f12 f13 ih hkeep hx
  by_cases hjr : i < g.vars.length
  · have hil : i < rows.length := by omega
    have hgr := hgood i rows[i] (List.getElem?_eq_getElem hil)
    have hrn : rows[i] ≠ [] := by intro e; have := hgr.len; rw [e] at this; simp at this; omega
    have hrow0 := L.at hil
    rw [sl_pos (by rw [hgr.len]; omega), hgr.len] at hrow0
    have hyi := L.hy i hil hrn
    rw [flat_bc] at hyi
    have hfy := L.fy i hil hrn
    have hxx := (hkeep x (by omega)).trans L.hx
    have hyy := (hkeep (ys i) (by omega)).trans hyi
    have hlt : i < rows[i].length := by rw [hgr.len]; exact hjr
    have hgi : (rows[i].map Value.bool)[i]? = some (.bool rows[i][i]) := by rw [List.getElem?_map, List.getElem?_eq_getElem hlt]; rfl
    have hm := hgr.mem i
    rw [List.getElem?_eq_getElem hlt] at hm
    have hset' : (rc.map Value.bool).set i (.bool rows[i][i]) = (rc.set i rows[i][i]).map .bool := by rw [List.map_set]
    have hil' : i + 1 ≤ rc.length := by omega
    repeat (first | apply WK.seq | apply WK.block | apply WK.skipSeq | apply WK.skipBlock | apply WK.retSeq | apply WK.retBlock | apply WK.exitSeq | apply WK.exitHere | refine WK.exitOn rfl ?_ | ((first | (refine WK.rgn ?_ ?_; kernel_rfl) | refine AtCall.now ?_); simp (config := { maxSteps := 1000000 }) only [SS, forall_const, wx, tguard, acallee, top, tval, tor, tload, tload2, tload3, tstore, tstore2, tstore3, tidx, tidx2, tfa, tfa2, tlen2, tpick, textr, tbox, talloc, tmake, tbuild, tbs, tbs2, tfld, tfld2, tsl, tsl2, tsl3, tix, tix1, tix2, tap, tap2, tap3, tap4, tsrc, tsrc2, Int.reduceEq, Int.reduceNeg, Go.AM.bound, afill, Nat.reduceGT, Nat.reduceLT, still, still1, flat1, one, Go.AM.splice, Nat.reduceLeDiff, vsh, vbin, vun, vconv, fput, Nat.reduceEqDiff, ↓reduceIte, reduceCtorEq, Int.reduceToNat, Int.reduceLE, Int.reduceLT, Nat.reduceAdd, Nat.reduceMul, f3, f11, f12, f13, hjr, hrow0, hxx, hyy, hgi, hx, hset', hil', List.length_map, ff_11]) | (refine WK.condT ?_ ?_; focus (simp only [ev_tmp, ev_const, fset_apply, Nat.reduceEqDiff, ↓reduceIte, decide_true, decide_false, f3, f11, f12, f13, hjr, hrow0, hxx, hyy, hgi, hx, hset', hil', List.length_map, ff_11]; done)) | (refine WK.condF ?_ ?_; focus (simp only [ev_tmp, ev_const, fset_apply, Nat.reduceEqDiff, ↓reduceIte, decide_true, decide_false, f3, f11, f12, f13, hjr, hrow0, hxx, hyy, hgi, hx, hset', hil', List.length_map, ff_11]; done)))
    refine ih (g.vars.length - (i + 1)) (by omega) _ ⟨i + 1, rc.set i rows[i][i], rfl, fun z hz => (hset_ne _ _ _ hz).trans (hkeep z hz), hset_at _ _ _, by rw [List.length_set]; exact hrc, f3, f11, f12, ?_, hjr, fun v h hv => ?_, rfl⟩
    · simp only [packed, fset_apply, Nat.reduceEqDiff, ↓reduceIte, List.getD_cons_zero, List.getD_cons_succ, ff_11]
      rw [wrap_in (by omega) (by omega)]; rfl
    · rw [List.getElem_set]
      split
      · rename_i e; subst e
        simpa using hm
      · exact hdone v (by simpa using h) (by omega)
  · repeat (first | apply WK.seq | apply WK.block | apply WK.skipSeq | apply WK.skipBlock | apply WK.retSeq | apply WK.retBlock | apply WK.exitSeq | apply WK.exitHere | refine WK.exitOn rfl ?_ | ((first | (refine WK.rgn ?_ ?_; kernel_rfl) | refine AtCall.now ?_); simp (config := { maxSteps := 1000000 }) only [SS, forall_const, wx, tguard, acallee, top, tval, tor, tload, tload2, tload3, tstore, tstore2, tstore3, tidx, tidx2, tfa, tfa2, tlen2, tpick, textr, tbox, talloc, tmake, tbuild, tbs, tbs2, tfld, tfld2, tsl, tsl2, tsl3, tix, tix1, tix2, tap, tap2, tap3, tap4, tsrc, tsrc2, Int.reduceEq, Int.reduceNeg, Go.AM.bound, afill, Nat.reduceGT, Nat.reduceLT, still, still1, flat1, one, Go.AM.splice, Nat.reduceLeDiff, vsh, vbin, vun, vconv, fput, Nat.reduceEqDiff, ↓reduceIte, reduceCtorEq, Int.reduceToNat, Int.reduceLE, Int.reduceLT, Nat.reduceAdd, Nat.reduceMul, f3, f12, f13, hjr, ff_11]) | (refine WK.condT ?_ ?_; focus (simp only [ev_tmp, ev_const, fset_apply, Nat.reduceEqDiff, ↓reduceIte, decide_true, decide_false, f3, f12, f13, hjr, ff_11]; done)) | (refine WK.condF ?_ ?_; focus (simp only [ev_tmp, ev_const, fset_apply, Nat.reduceEqDiff, ↓reduceIte, decide_true, decide_false, f3, f12, f13, hjr, ff_11]; done)))
    (first | refine WK.retNil ⟨Or.inr rfl, _, rfl, ?_, ?_⟩ | refine WK.skipNil ⟨Or.inl rfl, _, rfl, ?_, ?_⟩)
    · exact fun y hy => (hkeep y (by omega)).trans (kb2.keep y hy)
    · simp only [packed, fset_apply, Nat.reduceEqDiff, ↓reduceIte, List.getD_cons_zero, List.getD_cons_succ, f3, ff_11]
      exact ⟨rc, n + 1, by omega, rfl, hx, hrc, fun v h => hdone v h (by omega)⟩
end Go.Proofs.Ytplnndgdklfnfaa
