/- A part of a proof. Its conditions: none. -/
import Derived.Test.YtplnndgdklfnfaaAmLfRec
import Derived.Test.YtplnndgdklfnfaaAmLfGroups
import Derived.Test.YtplnndgdklfnfaaAmLfFew
import Derived.Test.YtplnndgdklfnfaaAmLfAlive
set_option linter.all false
namespace Go.Proofs.Ytplnndgdklfnfaa
open Go.AM

def bi (b : Bool) : Value := .int .i64 (if b then 1 else 0)
theorem rep_bi (l : Nat) : rep l [Value.int .i64 (Int.ofNat 0)] = (List.replicate l false).map bi := by
  induction l with
  | zero => rfl
  | succ l ih => rw [List.replicate_succ, List.map_cons, ← ih]; rfl

set_option maxHeartbeats 8000000 in
theorem joins_gives {v : Value} {g : Gram} {n : Nat} {H : Heap} (hw : WF n H) (hg : RG H v g) (wg : WG g) :
    Gives Try.prog 6 [v] n H fun v _ _ => v = .bool true := by
  have hg0 := hg
  obtain ⟨pt, pv, pr, rfl, ht, hv, hr⟩ := hg
  refine Gives.of orders ok6 (Nat.le_of_ble_eq_true rfl) ?_
  have hk := Kp.new n H (.cells (gcells pt pv pr g) 25 true)
  have hb := hset_at H n (.cells (gcells pt pv pr g) 25 true)
-- function 6
  repeat (first | apply WK.seq | apply WK.block | apply WK.skipSeq | apply WK.skipBlock | apply WK.retSeq | apply WK.retBlock | apply WK.exitSeq | apply WK.exitHere | refine WK.exitOn rfl ?_)
  (refine WK.rgn ?_ ?_; kernel_rfl; simp (config := { maxSteps := 1000000 }) only [SS, forall_const, wx, tguard, acallee, top, tval, tor, tload, tload2, tload3, tstore, tstore2, tstore3, tidx, tidx2, tfa, tfa2, tlen2, tpick, textr, tbox, talloc, tmake, tbuild, tbs, tbs2, tfld, tfld2, tsl, tsl2, tsl3, tix, tix1, tix2, tap, tap2, tap3, tap4, tsrc, tsrc2, Int.reduceEq, Int.reduceNeg, Go.AM.bound, afill, Nat.reduceGT, Nat.reduceLT, still, still1, flat1, one, Go.AM.splice, Nat.reduceLeDiff, vsh, vbin, vun, vconv, fput, Nat.reduceEqDiff, ↓reduceIte, reduceCtorEq, Int.reduceToNat, Int.reduceLE, Int.reduceLT, Nat.reduceAdd, Nat.reduceMul, box_cells, box_one, ff_6])
  generalize hset H n (.cells (gcells pt pv pr g) 25 true) = H1 at *
  repeat (first | apply WK.seq | apply WK.block | apply WK.skipSeq | apply WK.skipBlock | apply WK.retSeq | apply WK.retBlock | apply WK.exitSeq | apply WK.exitHere | refine WK.exitOn rfl ?_)
  (refine WK.rgn ?_ ?_; kernel_rfl; simp (config := { maxSteps := 1000000 }) only [SS, forall_const, wx, tguard, acallee, top, tval, tor, tload, tload2, tload3, tstore, tstore2, tstore3, tidx, tidx2, tfa, tfa2, tlen2, tpick, textr, tbox, talloc, tmake, tbuild, tbs, tbs2, tfld, tfld2, tsl, tsl2, tsl3, tix, tix1, tix2, tap, tap2, tap3, tap4, tsrc, tsrc2, Int.reduceEq, Int.reduceNeg, Go.AM.bound, afill, Nat.reduceGT, Nat.reduceLT, still, still1, flat1, one, Go.AM.splice, Nat.reduceLeDiff, vsh, vbin, vun, vconv, fput, Nat.reduceEqDiff, ↓reduceIte, reduceCtorEq, Int.reduceToNat, Int.reduceLE, Int.reduceLT, Nat.reduceAdd, Nat.reduceMul, ff_6])
  refine AtCall.by (alive_gives _ _) ?_
  rintro v n' H' hk' ⟨rfl, rfl, rfl⟩
  simp (config := { maxSteps := 1000000 }) only [SS, forall_const, wx, tguard, acallee, top, tval, tor, tload, tload2, tload3, tstore, tstore2, tstore3, tidx, tidx2, tfa, tfa2, tlen2, tpick, textr, tbox, talloc, tmake, tbuild, tbs, tbs2, tfld, tfld2, tsl, tsl2, tsl3, tix, tix1, tix2, tap, tap2, tap3, tap4, tsrc, tsrc2, Int.reduceEq, Int.reduceNeg, Go.AM.bound, afill, Nat.reduceGT, Nat.reduceLT, still, still1, flat1, one, Go.AM.splice, Nat.reduceLeDiff, vsh, vbin, vun, vconv, fput, Nat.reduceEqDiff, ↓reduceIte, reduceCtorEq, Int.reduceToNat, Int.reduceLE, Int.reduceLT, Nat.reduceAdd, Nat.reduceMul, ff_6]
  repeat (first | apply WK.seq | apply WK.block | apply WK.skipSeq | apply WK.skipBlock | apply WK.retSeq | apply WK.retBlock | apply WK.exitSeq | apply WK.exitHere | refine WK.exitOn rfl ?_)
  first | (refine WK.condT ?_ ?_; focus (simp only [ev_tmp, ev_const, fset_apply, Nat.reduceEqDiff, ↓reduceIte, decide_true, decide_false]; done)) | (refine WK.condF ?_ ?_; focus (simp only [ev_tmp, ev_const, fset_apply, Nat.reduceEqDiff, ↓reduceIte, decide_true, decide_false]; done))
  repeat (first | apply WK.seq | apply WK.block | apply WK.skipSeq | apply WK.skipBlock | apply WK.retSeq | apply WK.retBlock | apply WK.exitSeq | apply WK.exitHere | refine WK.exitOn rfl ?_)
  (refine WK.rgn ?_ ?_; kernel_rfl; simp (config := { maxSteps := 1000000 }) only [SS, forall_const, wx, tguard, acallee, top, tval, tor, tload, tload2, tload3, tstore, tstore2, tstore3, tidx, tidx2, tfa, tfa2, tlen2, tpick, textr, tbox, talloc, tmake, tbuild, tbs, tbs2, tfld, tfld2, tsl, tsl2, tsl3, tix, tix1, tix2, tap, tap2, tap3, tap4, tsrc, tsrc2, Int.reduceEq, Int.reduceNeg, Go.AM.bound, afill, Nat.reduceGT, Nat.reduceLT, still, still1, flat1, one, Go.AM.splice, Nat.reduceLeDiff, vsh, vbin, vun, vconv, fput, Nat.reduceEqDiff, ↓reduceIte, reduceCtorEq, Int.reduceToNat, Int.reduceLE, Int.reduceLT, Nat.reduceAdd, Nat.reduceMul, hb, gc_len, gc_all, ff_6])
  refine AtCall.by (few_gives (hk.wf hw) (hg0.mono hw hk) wg) ?_
  rintro v n2 H2 k2 rfl
  cases hf : few g
  · simp (config := { maxSteps := 1000000 }) only [SS, forall_const, wx, tguard, acallee, top, tval, tor, tload, tload2, tload3, tstore, tstore2, tstore3, tidx, tidx2, tfa, tfa2, tlen2, tpick, textr, tbox, talloc, tmake, tbuild, tbs, tbs2, tfld, tfld2, tsl, tsl2, tsl3, tix, tix1, tix2, tap, tap2, tap3, tap4, tsrc, tsrc2, Int.reduceEq, Int.reduceNeg, Go.AM.bound, afill, Nat.reduceGT, Nat.reduceLT, still, still1, flat1, one, Go.AM.splice, Nat.reduceLeDiff, vsh, vbin, vun, vconv, fput, Nat.reduceEqDiff, ↓reduceIte, reduceCtorEq, Int.reduceToNat, Int.reduceLE, Int.reduceLT, Nat.reduceAdd, Nat.reduceMul, ff_6]
    repeat (first | apply WK.seq | apply WK.block | apply WK.skipSeq | apply WK.skipBlock | apply WK.retSeq | apply WK.retBlock | apply WK.exitSeq | apply WK.exitHere | refine WK.exitOn rfl ?_ | ((first | (refine WK.rgn ?_ ?_; kernel_rfl) | refine AtCall.now ?_); simp (config := { maxSteps := 1000000 }) only [SS, forall_const, wx, tguard, acallee, top, tval, tor, tload, tload2, tload3, tstore, tstore2, tstore3, tidx, tidx2, tfa, tfa2, tlen2, tpick, textr, tbox, talloc, tmake, tbuild, tbs, tbs2, tfld, tfld2, tsl, tsl2, tsl3, tix, tix1, tix2, tap, tap2, tap3, tap4, tsrc, tsrc2, Int.reduceEq, Int.reduceNeg, Go.AM.bound, afill, Nat.reduceGT, Nat.reduceLT, still, still1, flat1, one, Go.AM.splice, Nat.reduceLeDiff, vsh, vbin, vun, vconv, fput, Nat.reduceEqDiff, ↓reduceIte, reduceCtorEq, Int.reduceToNat, Int.reduceLE, Int.reduceLT, Nat.reduceAdd, Nat.reduceMul, ff_6]) | (refine WK.condT ?_ ?_; focus (simp only [ev_tmp, ev_const, fset_apply, Nat.reduceEqDiff, ↓reduceIte, decide_true, decide_false, ff_6]; done)) | (refine WK.condF ?_ ?_; focus (simp only [ev_tmp, ev_const, fset_apply, Nat.reduceEqDiff, ↓reduceIte, decide_true, decide_false, ff_6]; done)))
    (first | refine WK.retNil ⟨Or.inr rfl, _, rfl, ?_, ?_⟩ | refine WK.skipNil ⟨Or.inl rfl, _, rfl, ?_, ?_⟩)
    · exact (hk.trans k2).keep
    · simp only [packed, fset_apply, Nat.reduceEqDiff, ↓reduceIte, List.getD_cons_zero, List.getD_cons_succ, ff_6]
  have kk2 := hk.trans k2
  have hb2 := (k2.keep n (by omega)).trans hb
  simp (config := { maxSteps := 1000000 }) only [SS, forall_const, wx, tguard, acallee, top, tval, tor, tload, tload2, tload3, tstore, tstore2, tstore3, tidx, tidx2, tfa, tfa2, tlen2, tpick, textr, tbox, talloc, tmake, tbuild, tbs, tbs2, tfld, tfld2, tsl, tsl2, tsl3, tix, tix1, tix2, tap, tap2, tap3, tap4, tsrc, tsrc2, Int.reduceEq, Int.reduceNeg, Go.AM.bound, afill, Nat.reduceGT, Nat.reduceLT, still, still1, flat1, one, Go.AM.splice, Nat.reduceLeDiff, vsh, vbin, vun, vconv, fput, Nat.reduceEqDiff, ↓reduceIte, reduceCtorEq, Int.reduceToNat, Int.reduceLE, Int.reduceLT, Nat.reduceAdd, Nat.reduceMul, hb2, gc_len, gc_all, ff_6]
  refine AtCall.by (right_gives (kk2.wf hw) (hg0.mono hw kk2) wg) ?_
  rintro v n3 H3 k3 ⟨t, rfl, hok⟩
  have kk3 := kk2.trans k3
  cases t
  · simp (config := { maxSteps := 1000000 }) only [SS, forall_const, wx, tguard, acallee, top, tval, tor, tload, tload2, tload3, tstore, tstore2, tstore3, tidx, tidx2, tfa, tfa2, tlen2, tpick, textr, tbox, talloc, tmake, tbuild, tbs, tbs2, tfld, tfld2, tsl, tsl2, tsl3, tix, tix1, tix2, tap, tap2, tap3, tap4, tsrc, tsrc2, Int.reduceEq, Int.reduceNeg, Go.AM.bound, afill, Nat.reduceGT, Nat.reduceLT, still, still1, flat1, one, Go.AM.splice, Nat.reduceLeDiff, vsh, vbin, vun, vconv, fput, Nat.reduceEqDiff, ↓reduceIte, reduceCtorEq, Int.reduceToNat, Int.reduceLE, Int.reduceLT, Nat.reduceAdd, Nat.reduceMul, ff_6]
    repeat (first | apply WK.seq | apply WK.block | apply WK.skipSeq | apply WK.skipBlock | apply WK.retSeq | apply WK.retBlock | apply WK.exitSeq | apply WK.exitHere | refine WK.exitOn rfl ?_ | ((first | (refine WK.rgn ?_ ?_; kernel_rfl) | refine AtCall.now ?_); simp (config := { maxSteps := 1000000 }) only [SS, forall_const, wx, tguard, acallee, top, tval, tor, tload, tload2, tload3, tstore, tstore2, tstore3, tidx, tidx2, tfa, tfa2, tlen2, tpick, textr, tbox, talloc, tmake, tbuild, tbs, tbs2, tfld, tfld2, tsl, tsl2, tsl3, tix, tix1, tix2, tap, tap2, tap3, tap4, tsrc, tsrc2, Int.reduceEq, Int.reduceNeg, Go.AM.bound, afill, Nat.reduceGT, Nat.reduceLT, still, still1, flat1, one, Go.AM.splice, Nat.reduceLeDiff, vsh, vbin, vun, vconv, fput, Nat.reduceEqDiff, ↓reduceIte, reduceCtorEq, Int.reduceToNat, Int.reduceLE, Int.reduceLT, Nat.reduceAdd, Nat.reduceMul, ff_6]) | (refine WK.condT ?_ ?_; focus (simp only [ev_tmp, ev_const, fset_apply, Nat.reduceEqDiff, ↓reduceIte, decide_true, decide_false, ff_6]; done)) | (refine WK.condF ?_ ?_; focus (simp only [ev_tmp, ev_const, fset_apply, Nat.reduceEqDiff, ↓reduceIte, decide_true, decide_false, ff_6]; done)))
    (first | refine WK.retNil ⟨Or.inr rfl, _, rfl, ?_, ?_⟩ | refine WK.skipNil ⟨Or.inl rfl, _, rfl, ?_, ?_⟩)
    · exact kk3.keep
    · simp only [packed, fset_apply, Nat.reduceEqDiff, ↓reduceIte, List.getD_cons_zero, List.getD_cons_succ, ff_6]
  have ok := hok rfl
  have hi := ok.inG
  have hv64 := ok.vars
  have hvl : (g.vars.length : Int) ≤ bigN := by unfold bigN; omega
  have hn3 := kk3.le
  have hn2 := k2.le
  have hn3' := k3.le
  have hb3 := (k3.keep n (by omega)).trans hb2
  simp (config := { maxSteps := 1000000 }) only [SS, forall_const, wx, tguard, acallee, top, tval, tor, tload, tload2, tload3, tstore, tstore2, tstore3, tidx, tidx2, tfa, tfa2, tlen2, tpick, textr, tbox, talloc, tmake, tbuild, tbs, tbs2, tfld, tfld2, tsl, tsl2, tsl3, tix, tix1, tix2, tap, tap2, tap3, tap4, tsrc, tsrc2, Int.reduceEq, Int.reduceNeg, Go.AM.bound, afill, Nat.reduceGT, Nat.reduceLT, still, still1, flat1, one, Go.AM.splice, Nat.reduceLeDiff, vsh, vbin, vun, vconv, fput, Nat.reduceEqDiff, ↓reduceIte, reduceCtorEq, Int.reduceToNat, Int.reduceLE, Int.reduceLT, Nat.reduceAdd, Nat.reduceMul, ff_6]
  repeat (first | apply WK.seq | apply WK.block | apply WK.skipSeq | apply WK.skipBlock | apply WK.retSeq | apply WK.retBlock | apply WK.exitSeq | apply WK.exitHere | refine WK.exitOn rfl ?_)
  first | (refine WK.condT ?_ ?_; focus (simp only [ev_tmp, ev_const, fset_apply, Nat.reduceEqDiff, ↓reduceIte, decide_true, decide_false]; done)) | (refine WK.condF ?_ ?_; focus (simp only [ev_tmp, ev_const, fset_apply, Nat.reduceEqDiff, ↓reduceIte, decide_true, decide_false]; done))
  repeat (first | apply WK.seq | apply WK.block | apply WK.skipSeq | apply WK.skipBlock | apply WK.retSeq | apply WK.retBlock | apply WK.exitSeq | apply WK.exitHere | refine WK.exitOn rfl ?_)
  (refine WK.rgn ?_ ?_; kernel_rfl; simp (config := { maxSteps := 1000000 }) only [SS, forall_const, wx, tguard, acallee, top, tval, tor, tload, tload2, tload3, tstore, tstore2, tstore3, tidx, tidx2, tfa, tfa2, tlen2, tpick, textr, tbox, talloc, tmake, tbuild, tbs, tbs2, tfld, tfld2, tsl, tsl2, tsl3, tix, tix1, tix2, tap, tap2, tap3, tap4, tsrc, tsrc2, Int.reduceEq, Int.reduceNeg, Go.AM.bound, afill, Nat.reduceGT, Nat.reduceLT, still, still1, flat1, one, Go.AM.splice, Nat.reduceLeDiff, vsh, vbin, vun, vconv, fput, Nat.reduceEqDiff, ↓reduceIte, reduceCtorEq, Int.reduceToNat, Int.reduceLE, Int.reduceLT, Nat.reduceAdd, Nat.reduceMul, hb3, gc_0, gc_1, gc_2, hvl, ff_6])
  rw [rep_bi]
  have k4 := Kp.new n3 H3 (.cells ((List.replicate g.vars.length false).map bi) 3 true)
  have b4 := hset_at H3 n3 (.cells ((List.replicate g.vars.length false).map bi) 3 true)
  generalize hset H3 n3 (.cells ((List.replicate g.vars.length false).map bi) 3 true) = H4 at *
  have kk4 := kk3.trans k4
  have hb4 := (k4.keep n (by omega)).trans hb3
  repeat (first | apply WK.seq | apply WK.block | apply WK.skipSeq | apply WK.skipBlock | apply WK.retSeq | apply WK.retBlock | apply WK.exitSeq | apply WK.exitHere | refine WK.exitOn rfl ?_)
  (refine WK.rgn ?_ ?_; kernel_rfl; simp (config := { maxSteps := 1000000 }) only [SS, forall_const, wx, tguard, acallee, top, tval, tor, tload, tload2, tload3, tstore, tstore2, tstore3, tidx, tidx2, tfa, tfa2, tlen2, tpick, textr, tbox, talloc, tmake, tbuild, tbs, tbs2, tfld, tfld2, tsl, tsl2, tsl3, tix, tix1, tix2, tap, tap2, tap3, tap4, tsrc, tsrc2, Int.reduceEq, Int.reduceNeg, Go.AM.bound, afill, Nat.reduceGT, Nat.reduceLT, still, still1, flat1, one, Go.AM.splice, Nat.reduceLeDiff, vsh, vbin, vun, vconv, fput, Nat.reduceEqDiff, ↓reduceIte, reduceCtorEq, Int.reduceToNat, Int.reduceLE, Int.reduceLT, Nat.reduceAdd, Nat.reduceMul, hb4, gc_len, gc_all, ff_6])
  refine AtCall.by (recursive_gives (kk4.wf hw) (hg0.mono hw kk4) wg ok) ?_
  rintro v n5 H5 k5 ⟨rc, xc, hxc0, rfl, hxc, hrc, hrec⟩
  simp (config := { maxSteps := 1000000 }) only [SS, forall_const, wx, tguard, acallee, top, tval, tor, tload, tload2, tload3, tstore, tstore2, tstore3, tidx, tidx2, tfa, tfa2, tlen2, tpick, textr, tbox, talloc, tmake, tbuild, tbs, tbs2, tfld, tfld2, tsl, tsl2, tsl3, tix, tix1, tix2, tap, tap2, tap3, tap4, tsrc, tsrc2, Int.reduceEq, Int.reduceNeg, Go.AM.bound, afill, Nat.reduceGT, Nat.reduceLT, still, still1, flat1, one, Go.AM.splice, Nat.reduceLeDiff, vsh, vbin, vun, vconv, fput, Nat.reduceEqDiff, ↓reduceIte, reduceCtorEq, Int.reduceToNat, Int.reduceLE, Int.reduceLT, Nat.reduceAdd, Nat.reduceMul, ff_6]
  have kk5 := kk4.trans k5
  have hn5 := k5.le
  have b5 := (k5.keep _ (by omega)).trans b4
  have hb5 := (k5.keep n (by omega)).trans hb4
  repeat (first | apply WK.seq | apply WK.block | apply WK.skipSeq | apply WK.skipBlock | apply WK.retSeq | apply WK.retBlock | apply WK.exitSeq | apply WK.exitHere | refine WK.exitOn rfl ?_)
  (refine WK.rgn ?_ ?_; kernel_rfl; simp (config := { maxSteps := 1000000 }) only [SS, forall_const, wx, tguard, acallee, top, tval, tor, tload, tload2, tload3, tstore, tstore2, tstore3, tidx, tidx2, tfa, tfa2, tlen2, tpick, textr, tbox, talloc, tmake, tbuild, tbs, tbs2, tfld, tfld2, tsl, tsl2, tsl3, tix, tix1, tix2, tap, tap2, tap3, tap4, tsrc, tsrc2, Int.reduceEq, Int.reduceNeg, Go.AM.bound, afill, Nat.reduceGT, Nat.reduceLT, still, still1, flat1, one, Go.AM.splice, Nat.reduceLeDiff, vsh, vbin, vun, vconv, fput, Nat.reduceEqDiff, ↓reduceIte, reduceCtorEq, Int.reduceToNat, Int.reduceLE, Int.reduceLT, Nat.reduceAdd, Nat.reduceMul, hb5, gc_len, gc_all, ff_6])
  refine AtCall.by (groups_gives (kk5.wf hw) (hg0.mono hw kk5) wg ok) ?_
  rintro v n6 H6 k6 ⟨R, xg, yg, hR, rfl, hLL⟩
  have kk6 := kk5.trans k6
  have hn6 := k6.le
  have hw6 := kk6.wf hw
  have hxcn := live_lt (kk5.wf hw) (live_of hxc)
  have b6 := (k6.keep _ (by omega)).trans b5
  have hxc6 := (k6.keep _ hxcn).trans hxc
  have ht : ∀ a b c, R a b = true → R b c = true → R a c = true := fun a b c h1 h2 => (hR a c).2 (((hR a b).1 h1).trans ((hR b c).1 h2))
  have hmem : ∀ l, l ∈ groupsS R g.vars.length g.vars.length → ∀ v, v ∈ l → v < g.vars.length ∧ R v v = true := fun l hl v hv => by
    obtain ⟨u, _, _, rfl⟩ := mem_groups.1 hl
    have h := mem_grp.1 hv
    exact ⟨h.1, (in_all ht h.1).1 ⟨_, hl, hv⟩⟩
  have hup : ∀ l, l ∈ groupsS R g.vars.length g.vars.length → ∀ p q (hq : q < l.length) (h : p < q), l[p] < l[q] := fun l hl p q hq h => by
    obtain ⟨u, _, _, rfl⟩ := mem_groups.1 hl
    exact grp_up h hq
  have hap : ∀ p q v l l', (groupsS R g.vars.length g.vars.length)[p]? = some l → (groupsS R g.vars.length g.vars.length)[q]? = some l' → p < q → v ∈ l → v ∉ l' := fun p q v l l' e1 e2 hpq h1 h2 => by
    obtain ⟨hp', rfl⟩ := List.getElem?_eq_some_iff.1 e1
    obtain ⟨hq', rfl⟩ := List.getElem?_eq_some_iff.1 e2
    exact groups_apart ht hpq hq' h1 h2
  have hall : ∀ v, v < g.vars.length → ((∃ l ∈ groupsS R g.vars.length g.vars.length, v ∈ l) ↔ R v v = true) := fun v hv => in_all ht hv
  have hgl : (groupsS R g.vars.length g.vars.length).length ≤ 64 := by
    unfold groupsS
    rw [List.length_map]
    have := List.length_filter_le (leader R) (List.range g.vars.length)
    rw [List.length_range] at this
    omega
  have hll : ∀ l, l ∈ groupsS R g.vars.length g.vars.length → l.length ≤ 64 := fun l hl => by have := groupsS_len hl; omega
  generalize groupsS R g.vars.length g.vars.length = gs at *
  rw [sl_eq]
  simp (config := { maxSteps := 1000000 }) only [SS, forall_const, wx, tguard, acallee, top, tval, tor, tload, tload2, tload3, tstore, tstore2, tstore3, tidx, tidx2, tfa, tfa2, tlen2, tpick, textr, tbox, talloc, tmake, tbuild, tbs, tbs2, tfld, tfld2, tsl, tsl2, tsl3, tix, tix1, tix2, tap, tap2, tap3, tap4, tsrc, tsrc2, Int.reduceEq, Int.reduceNeg, Go.AM.bound, afill, Nat.reduceGT, Nat.reduceLT, still, still1, flat1, one, Go.AM.splice, Nat.reduceLeDiff, vsh, vbin, vun, vconv, fput, Nat.reduceEqDiff, ↓reduceIte, reduceCtorEq, Int.reduceToNat, Int.reduceLE, Int.reduceLT, Nat.reduceAdd, Nat.reduceMul, ff_6]
  repeat (first | apply WK.seq | apply WK.block | apply WK.skipSeq | apply WK.skipBlock | apply WK.retSeq | apply WK.retBlock | apply WK.exitSeq | apply WK.exitHere | refine WK.exitOn rfl ?_ | ((first | (refine WK.rgn ?_ ?_; kernel_rfl) | refine AtCall.now ?_); simp (config := { maxSteps := 1000000 }) only [SS, forall_const, wx, tguard, acallee, top, tval, tor, tload, tload2, tload3, tstore, tstore2, tstore3, tidx, tidx2, tfa, tfa2, tlen2, tpick, textr, tbox, talloc, tmake, tbuild, tbs, tbs2, tfld, tfld2, tsl, tsl2, tsl3, tix, tix1, tix2, tap, tap2, tap3, tap4, tsrc, tsrc2, Int.reduceEq, Int.reduceNeg, Go.AM.bound, afill, Nat.reduceGT, Nat.reduceLT, still, still1, flat1, one, Go.AM.splice, Nat.reduceLeDiff, vsh, vbin, vun, vconv, fput, Nat.reduceEqDiff, ↓reduceIte, reduceCtorEq, Int.reduceToNat, Int.reduceLE, Int.reduceLT, Nat.reduceAdd, Nat.reduceMul, ff_6]) | (refine WK.condT ?_ ?_; focus (simp only [ev_tmp, ev_const, fset_apply, Nat.reduceEqDiff, ↓reduceIte, decide_true, decide_false, ff_6]; done)) | (refine WK.condF ?_ ?_; focus (simp only [ev_tmp, ev_const, fset_apply, Nat.reduceEqDiff, ↓reduceIte, decide_true, decide_false, ff_6]; done)))
  refine WK.loop (fun k s => ∃ (q : Nat) (ins : List Bool), s.n = n6 ∧ (∀ z, z ≠ n3 → s.H z = H6 z) ∧ s.H n3 = .cells (ins.map bi) 3 true ∧ ins.length = g.vars.length ∧ s.f 3 = .slice (some ⟨n3, 0, none⟩) g.vars.length g.vars.length ∧ s.f 4 = .slice (some ⟨xc, 0, none⟩) g.vars.length g.vars.length ∧
      s.f 28 = .slice (slp xg gs.length) gs.length gs.length ∧ s.f 29 = .int .i64 gs.length ∧ s.f 30 = .int .i64 (q : Nat) ∧ q ≤ gs.length ∧ (∀ v (h : v < ins.length), ins[v] = true ↔ ∃ l ∈ gs.take q, v ∈ l) ∧ k = gs.length - q) gs.length ?_ ?_
  · exact ⟨0, _, rfl, fun _ _ => rfl, b6, by simp, rfl, rfl, rfl, rfl, rfl, Nat.zero_le _, fun v h => by simp, rfl⟩
  rintro kk' ⟨f, n7, H7⟩ ⟨q, ins, rfl, hkeep, hin, hil, f3, f4, f28, f29, f30, hq, hins, rfl⟩ ih
  simp only at f3 f4 f28 f29 f30 ih hkeep hin
  have hxc7 := (hkeep xc (by omega)).trans hxc6
  by_cases hjq : q < gs.length
  · have hne : gs ≠ [] := by intro e; rw [e] at hjq; simp at hjq
    obtain ⟨hxg, L⟩ := hLL hne
    have hlq := List.getElem_mem hjq
    have hrow0 := L.at hjq
    have hxg7 := (hkeep xg (by omega)).trans L.hx
    rw [sl_eq] at hrow0
    rw [slp_pos (by simpa using hne)] at f28
    repeat (first | apply WK.seq | apply WK.block | apply WK.skipSeq | apply WK.skipBlock | apply WK.retSeq | apply WK.retBlock | apply WK.exitSeq | apply WK.exitHere | refine WK.exitOn rfl ?_ | ((first | (refine WK.rgn ?_ ?_; kernel_rfl) | refine AtCall.now ?_); simp (config := { maxSteps := 1000000 }) only [SS, forall_const, wx, tguard, acallee, top, tval, tor, tload, tload2, tload3, tstore, tstore2, tstore3, tidx, tidx2, tfa, tfa2, tlen2, tpick, textr, tbox, talloc, tmake, tbuild, tbs, tbs2, tfld, tfld2, tsl, tsl2, tsl3, tix, tix1, tix2, tap, tap2, tap3, tap4, tsrc, tsrc2, Int.reduceEq, Int.reduceNeg, Go.AM.bound, afill, Nat.reduceGT, Nat.reduceLT, still, still1, flat1, one, Go.AM.splice, Nat.reduceLeDiff, vsh, vbin, vun, vconv, fput, Nat.reduceEqDiff, ↓reduceIte, reduceCtorEq, Int.reduceToNat, Int.reduceLE, Int.reduceLT, Nat.reduceAdd, Nat.reduceMul, f28, f29, f30, hjq, hxg7, hrow0, ff_6]) | (refine WK.condT ?_ ?_; focus (simp only [ev_tmp, ev_const, fset_apply, Nat.reduceEqDiff, ↓reduceIte, decide_true, decide_false, f28, f29, f30, hjq, hxg7, hrow0, ff_6]; done)) | (refine WK.condF ?_ ?_; focus (simp only [ev_tmp, ev_const, fset_apply, Nat.reduceEqDiff, ↓reduceIte, decide_true, decide_false, f28, f29, f30, hjq, hxg7, hrow0, ff_6]; done)))
    -- one group
    refine WK.loop (fun k s => ∃ (j : Nat) (ins : List Bool), s.n = n7 ∧ (∀ z, z ≠ n3 → s.H z = H6 z) ∧ s.H n3 = .cells (ins.map bi) 3 true ∧ ins.length = g.vars.length ∧ s.f 3 = .slice (some ⟨n3, 0, none⟩) g.vars.length g.vars.length ∧ s.f 4 = .slice (some ⟨xc, 0, none⟩) g.vars.length g.vars.length ∧
        s.f 28 = .slice (some ⟨xg, 0, none⟩) gs.length gs.length ∧ s.f 29 = .int .i64 gs.length ∧ s.f 30 = .int .i64 (q : Nat) ∧ s.f 6 = .slice (slp (yg q) gs[q].length) gs[q].length gs[q].length ∧ s.f 34 = .slice (slp (yg q) gs[q].length) gs[q].length gs[q].length ∧ s.f 35 = .int .i64 gs[q].length ∧ s.f 36 = .int .i64 (j : Nat) ∧ j ≤ gs[q].length ∧
        (∀ v (h : v < ins.length), ins[v] = true ↔ (∃ l ∈ gs.take q, v ∈ l) ∨ v ∈ gs[q].take j) ∧ k = gs[q].length - j) gs[q].length ?_ ?_
    · exact ⟨0, ins, rfl, hkeep, hin, hil, f3, f4, f28, f29, f30, rfl, rfl, rfl, rfl, Nat.zero_le _, fun v h => by rw [hins v h]; simp, rfl⟩
    clear hkeep hin hil f3 f4 f28 f29 f30 hins hxc7 hxg7 hw hg0 ht
    rintro kk' ⟨f, n7b, H7⟩ ⟨j, ins, rfl, hkeep, hin, hil, f3, f4, f28, f29, f30, f6, f34, f35, f36, hj, hins, rfl⟩ ih2
    simp only at f3 f4 f28 f29 f30 f6 f34 f35 f36 ih2 hkeep hin
    have hxc7 := (hkeep xc (by omega)).trans hxc6
    by_cases hjl : j < gs[q].length
    · have hnl : gs[q] ≠ [] := by intro e; rw [e] at hjl; simp at hjl
      have hyq := L.hy q hjq hnl
      have hyf := L.fy q hjq hnl
      have hy7 := (hkeep (yg q) (by omega)).trans hyq
      rw [flat_ic] at hy7
      rw [slp_pos (by omega)] at f34 f6
      obtain ⟨v, hv⟩ : ∃ v, gs[q][j] = v := ⟨_, rfl⟩
      have hvm : v ∈ gs[q] := hv ▸ List.getElem_mem hjl
      obtain ⟨hvn, hvr⟩ := hmem _ hlq v hvm
      have e1 : (gs[q].map fun u => Value.int .i64 (u : Nat))[j]? = some (.int .i64 (v : Nat)) := by rw [List.getElem?_map, List.getElem?_eq_getElem hjl, hv]; rfl
      have e2 : ((v : Int) < 0) = False := by simp
      have e3 : (g.vars.length ≤ v) = False := by simp; exact hvn
      have hvi : v < ins.length := by omega
      have hvf : ins[v] = false := by
        cases h : ins[v]
        · rfl
        · exfalso
          rcases (hins v hvi).1 h with ⟨l, hl, hvl⟩ | h'
          · obtain ⟨p, hp, rfl⟩ := List.getElem_of_mem hl
            rw [List.length_take] at hp
            refine hap p q v _ _ ?_ (List.getElem?_eq_getElem hjq) (by omega) hvl hvm
            rw [List.getElem_take, List.getElem?_eq_getElem]
          · obtain ⟨p, hp, e⟩ := List.getElem_of_mem h'
            rw [List.length_take] at hp
            rw [List.getElem_take] at e
            have := hup _ hlq p j hjl (by omega)
            omega
      have e4 : (ins.map bi)[v]? = some (.int .i64 0) := by rw [List.getElem?_map, List.getElem?_eq_getElem hvi, hvf]; rfl
      have hvc : v < rc.length := by omega
      have hrcv : rc[v] = true := (hrec v hvc).2 ((hR v v).1 hvr)
      have e5 : (rc.map Value.bool)[v]? = some (.bool true) := by rw [List.getElem?_map, List.getElem?_eq_getElem hvc, hrcv]; rfl
      have e6 : v + 1 ≤ ins.length := hvi
      have e7 : (ins.map bi).set v (.int .i64 1) = (ins.set v true).map bi := by rw [List.map_set]; rfl
      have hjw : IntKind.i64.wrap ((j : Int) + 1) = ((j + 1 : Nat) : Int) := by
        have := hll _ hlq
        rw [wrap_in (by omega) (by omega)]; rfl
      have fin : ∀ (f' : Fr) (H' : Heap), H' = hset H7 n3 (.cells ((ins.set v true).map bi) 3 true) → f' 3 = f 3 → f' 4 = f 4 → f' 28 = f 28 → f' 29 = f 29 → f' 30 = f 30 → f' 6 = f 6 → f' 34 = f 34 → f' 35 = f 35 → f' 36 = .int .i64 (j + 1 : Nat) →
          ∃ (j' : Nat) (ins : List Bool), n7b = n7b ∧ (∀ z, z ≠ n3 → H' z = H6 z) ∧ H' n3 = .cells (ins.map bi) 3 true ∧ ins.length = g.vars.length ∧ f' 3 = .slice (some ⟨n3, 0, none⟩) g.vars.length g.vars.length ∧ f' 4 = .slice (some ⟨xc, 0, none⟩) g.vars.length g.vars.length ∧
        f' 28 = .slice (some ⟨xg, 0, none⟩) gs.length gs.length ∧ f' 29 = .int .i64 gs.length ∧ f' 30 = .int .i64 (q : Nat) ∧ f' 6 = .slice (slp (yg q) gs[q].length) gs[q].length gs[q].length ∧ f' 34 = .slice (slp (yg q) gs[q].length) gs[q].length gs[q].length ∧ f' 35 = .int .i64 gs[q].length ∧ f' 36 = .int .i64 (j' : Nat) ∧ j' ≤ gs[q].length ∧
        (∀ v (h : v < ins.length), ins[v] = true ↔ (∃ l ∈ gs.take q, v ∈ l) ∨ v ∈ gs[q].take j') ∧ gs[q].length - (j + 1) = gs[q].length - j' := by
        intro f' H' eH g3 g4 g28 g29 g30 g6 g34 g35 g36
        refine ⟨j + 1, ins.set v true, rfl, fun z hz => by rw [eH, hset_ne _ _ _ hz]; exact hkeep z hz, by rw [eH]; exact hset_at _ _ _, by rw [List.length_set]; exact hil, g3.trans f3, g4.trans f4, g28.trans f28, g29.trans f29, g30.trans f30, by rw [slp_pos (by omega)]; exact g6.trans f6, by rw [slp_pos (by omega)]; exact g34.trans f34, g35.trans f35, g36, hjl, fun w hw' => ?_, rfl⟩
        rw [List.getElem_set, List.take_succ_eq_append_getElem hjl, List.mem_append, hv]
        by_cases e : v = w
        · subst e; simp
        · rw [if_neg e, hins w (by simpa using hw')]
          simp [Ne.symm e]
      by_cases hj0 : (0 : Int) < j
      · have e8 : IntKind.i64.wrap ((j : Int) - 1) = ((j - 1 : Nat) : Int) := by
          have := hll _ hlq
          rw [wrap_in (by omega) (by omega)]; omega
        have hj' : j - 1 < gs[q].length := by omega
        obtain ⟨u, hu⟩ : ∃ u, gs[q][j - 1] = u := ⟨_, rfl⟩
        have e9 : (gs[q].map fun u => Value.int .i64 (u : Nat))[j - 1]? = some (.int .i64 (u : Nat)) := by rw [List.getElem?_map, List.getElem?_eq_getElem hj', hu]; rfl
        have huv := hup _ hlq (j - 1) j hjl (by omega)
        rw [hu, hv] at huv
        have e10 : (v ≤ u) = False := by simp; exact huv
        repeat (first | apply WK.seq | apply WK.block | apply WK.skipSeq | apply WK.skipBlock | apply WK.retSeq | apply WK.retBlock | apply WK.exitSeq | apply WK.exitHere | refine WK.exitOn rfl ?_ | ((first | (refine WK.rgn ?_ ?_; kernel_rfl) | refine AtCall.now ?_); simp (config := { maxSteps := 1000000 }) only [SS, forall_const, wx, tguard, acallee, top, tval, tor, tload, tload2, tload3, tstore, tstore2, tstore3, tidx, tidx2, tfa, tfa2, tlen2, tpick, textr, tbox, talloc, tmake, tbuild, tbs, tbs2, tfld, tfld2, tsl, tsl2, tsl3, tix, tix1, tix2, tap, tap2, tap3, tap4, tsrc, tsrc2, Int.reduceEq, Int.reduceNeg, Go.AM.bound, afill, Nat.reduceGT, Nat.reduceLT, still, still1, flat1, one, Go.AM.splice, Nat.reduceLeDiff, vsh, vbin, vun, vconv, fput, Nat.reduceEqDiff, ↓reduceIte, reduceCtorEq, Int.reduceToNat, Int.reduceLE, Int.reduceLT, Nat.reduceAdd, Nat.reduceMul, f3, f4, f6, f34, f35, f36, hjl, hy7, e1, e2, e3, e4, e5, e6, e7, e8, e9, e10, hin, hxc7, hvn, hj0, hj', List.length_map, ff_6]) | (refine WK.condT ?_ ?_; focus (simp only [ev_tmp, ev_const, fset_apply, Nat.reduceEqDiff, ↓reduceIte, decide_true, decide_false, f3, f4, f6, f34, f35, f36, hjl, hy7, e1, e2, e3, e4, e5, e6, e7, e8, e9, e10, hin, hxc7, hvn, hj0, hj', List.length_map, ff_6]; done)) | (refine WK.condF ?_ ?_; focus (simp only [ev_tmp, ev_const, fset_apply, Nat.reduceEqDiff, ↓reduceIte, decide_true, decide_false, f3, f4, f6, f34, f35, f36, hjl, hy7, e1, e2, e3, e4, e5, e6, e7, e8, e9, e10, hin, hxc7, hvn, hj0, hj', List.length_map, ff_6]; done)))
        refine ih2 (gs[q].length - (j + 1)) (by omega) _ (fin _ _ rfl rfl rfl rfl rfl rfl rfl rfl rfl ?_)
        simp only [packed, fset_apply, Nat.reduceEqDiff, ↓reduceIte, List.getD_cons_zero, List.getD_cons_succ, hjw, ff_6]
      · have hj00 : j = 0 := by omega
        subst hj00
        repeat (first | apply WK.seq | apply WK.block | apply WK.skipSeq | apply WK.skipBlock | apply WK.retSeq | apply WK.retBlock | apply WK.exitSeq | apply WK.exitHere | refine WK.exitOn rfl ?_ | ((first | (refine WK.rgn ?_ ?_; kernel_rfl) | refine AtCall.now ?_); simp (config := { maxSteps := 1000000 }) only [SS, forall_const, wx, tguard, acallee, top, tval, tor, tload, tload2, tload3, tstore, tstore2, tstore3, tidx, tidx2, tfa, tfa2, tlen2, tpick, textr, tbox, talloc, tmake, tbuild, tbs, tbs2, tfld, tfld2, tsl, tsl2, tsl3, tix, tix1, tix2, tap, tap2, tap3, tap4, tsrc, tsrc2, Int.reduceEq, Int.reduceNeg, Go.AM.bound, afill, Nat.reduceGT, Nat.reduceLT, still, still1, flat1, one, Go.AM.splice, Nat.reduceLeDiff, vsh, vbin, vun, vconv, fput, Nat.reduceEqDiff, ↓reduceIte, reduceCtorEq, Int.reduceToNat, Int.reduceLE, Int.reduceLT, Nat.reduceAdd, Nat.reduceMul, f3, f4, f6, f34, f35, f36, hjl, hy7, e1, e2, e3, e4, e5, e6, e7, hin, hxc7, hvn, hj0, List.length_map, ff_6]) | (refine WK.condT ?_ ?_; focus (simp only [ev_tmp, ev_const, fset_apply, Nat.reduceEqDiff, ↓reduceIte, decide_true, decide_false, f3, f4, f6, f34, f35, f36, hjl, hy7, e1, e2, e3, e4, e5, e6, e7, hin, hxc7, hvn, hj0, List.length_map, ff_6]; done)) | (refine WK.condF ?_ ?_; focus (simp only [ev_tmp, ev_const, fset_apply, Nat.reduceEqDiff, ↓reduceIte, decide_true, decide_false, f3, f4, f6, f34, f35, f36, hjl, hy7, e1, e2, e3, e4, e5, e6, e7, hin, hxc7, hvn, hj0, List.length_map, ff_6]; done)))
        refine ih2 (gs[q].length - (0 + 1)) (by omega) _ (fin _ _ rfl rfl rfl rfl rfl rfl rfl rfl rfl ?_)
        simp only [packed, fset_apply, Nat.reduceEqDiff, ↓reduceIte, List.getD_cons_zero, List.getD_cons_succ, hjw, ff_6]
    · repeat (first | apply WK.seq | apply WK.block | apply WK.skipSeq | apply WK.skipBlock | apply WK.retSeq | apply WK.retBlock | apply WK.exitSeq | apply WK.exitHere | refine WK.exitOn rfl ?_ | ((first | (refine WK.rgn ?_ ?_; kernel_rfl) | refine AtCall.now ?_); simp (config := { maxSteps := 1000000 }) only [SS, forall_const, wx, tguard, acallee, top, tval, tor, tload, tload2, tload3, tstore, tstore2, tstore3, tidx, tidx2, tfa, tfa2, tlen2, tpick, textr, tbox, talloc, tmake, tbuild, tbs, tbs2, tfld, tfld2, tsl, tsl2, tsl3, tix, tix1, tix2, tap, tap2, tap3, tap4, tsrc, tsrc2, Int.reduceEq, Int.reduceNeg, Go.AM.bound, afill, Nat.reduceGT, Nat.reduceLT, still, still1, flat1, one, Go.AM.splice, Nat.reduceLeDiff, vsh, vbin, vun, vconv, fput, Nat.reduceEqDiff, ↓reduceIte, reduceCtorEq, Int.reduceToNat, Int.reduceLE, Int.reduceLT, Nat.reduceAdd, Nat.reduceMul, f30, f35, f36, hjl, ff_6]) | (refine WK.condT ?_ ?_; focus (simp only [ev_tmp, ev_const, fset_apply, Nat.reduceEqDiff, ↓reduceIte, decide_true, decide_false, f30, f35, f36, hjl, ff_6]; done)) | (refine WK.condF ?_ ?_; focus (simp only [ev_tmp, ev_const, fset_apply, Nat.reduceEqDiff, ↓reduceIte, decide_true, decide_false, f30, f35, f36, hjl, ff_6]; done)))
      refine ih (gs.length - (q + 1)) (by omega) _ ⟨q + 1, ins, rfl, hkeep, hin, hil, f3, f4, by rw [slp_pos (by simpa using hne)]; exact f28, f29, ?_, hjq, fun v h => ?_, rfl⟩
      · simp only [packed, fset_apply, Nat.reduceEqDiff, ↓reduceIte, List.getD_cons_zero, List.getD_cons_succ, ff_6]
        rw [wrap_in (by omega) (by omega)]; rfl
      · rw [hins v h, List.take_of_length_le (Nat.le_of_not_lt hjl), List.take_succ_eq_append_getElem hjq]
        simp only [List.mem_append, List.mem_singleton]
        constructor
        · rintro (⟨l, h1, h2⟩ | h1)
          · exact ⟨l, .inl h1, h2⟩
          · exact ⟨_, .inr rfl, h1⟩
        · rintro ⟨l, h1 | rfl, h2⟩
          · exact .inl ⟨l, h1, h2⟩
          · exact .inr h2
  · rw [List.take_of_length_le (by omega)] at hins
    have hwr := ok.vars
    repeat (first | apply WK.seq | apply WK.block | apply WK.skipSeq | apply WK.skipBlock | apply WK.retSeq | apply WK.retBlock | apply WK.exitSeq | apply WK.exitHere | refine WK.exitOn rfl ?_ | ((first | (refine WK.rgn ?_ ?_; kernel_rfl) | refine AtCall.now ?_); simp (config := { maxSteps := 1000000 }) only [SS, forall_const, wx, tguard, acallee, top, tval, tor, tload, tload2, tload3, tstore, tstore2, tstore3, tidx, tidx2, tfa, tfa2, tlen2, tpick, textr, tbox, talloc, tmake, tbuild, tbs, tbs2, tfld, tfld2, tsl, tsl2, tsl3, tix, tix1, tix2, tap, tap2, tap3, tap4, tsrc, tsrc2, Int.reduceEq, Int.reduceNeg, Go.AM.bound, afill, Nat.reduceGT, Nat.reduceLT, still, still1, flat1, one, Go.AM.splice, Nat.reduceLeDiff, vsh, vbin, vun, vconv, fput, Nat.reduceEqDiff, ↓reduceIte, reduceCtorEq, Int.reduceToNat, Int.reduceLE, Int.reduceLT, Nat.reduceAdd, Nat.reduceMul, f4, f29, f30, hjq, ff_6]) | (refine WK.condT ?_ ?_; focus (simp only [ev_tmp, ev_const, fset_apply, Nat.reduceEqDiff, ↓reduceIte, decide_true, decide_false, f4, f29, f30, hjq, ff_6]; done)) | (refine WK.condF ?_ ?_; focus (simp only [ev_tmp, ev_const, fset_apply, Nat.reduceEqDiff, ↓reduceIte, decide_true, decide_false, f4, f29, f30, hjq, ff_6]; done)))
    refine WK.loop (fun k s => ∃ j, s.n = n7 ∧ s.H = H7 ∧ s.f 3 = .slice (some ⟨n3, 0, none⟩) g.vars.length g.vars.length ∧ s.f 81 = .slice (some ⟨xc, 0, none⟩) g.vars.length g.vars.length ∧ s.f 82 = .int .i64 g.vars.length ∧ s.f 83 = .int .i64 (j : Nat) ∧ j ≤ g.vars.length ∧ k = g.vars.length - j) g.vars.length ?_ ?_
    · exact ⟨0, rfl, rfl, f3, rfl, rfl, rfl, Nat.zero_le _, rfl⟩
    clear ih f3 f4 f28 f29 f30
    rintro kk' ⟨f, n8, H8⟩ ⟨j, rfl, rfl, f3, f81, f82, f83, hj, rfl⟩ ih
    simp only at f3 f81 f82 f83 ih hkeep hin hxc7
    by_cases hjv : j < g.vars.length
    · have hji : j < ins.length := by omega
      have hjc : j < rc.length := by omega
      have he : ins[j] = rc[j] := by
        rw [Bool.eq_iff_iff, hins j hji, hall j hjv, hrec j hjc, hR]
      have e5 : (rc.map Value.bool)[j]? = some (.bool rc[j]) := by rw [List.getElem?_map, List.getElem?_eq_getElem hjc]; rfl
      have hw83 : IntKind.i64.wrap ((j : Int) + 1) = ((j + 1 : Nat) : Int) := by rw [wrap_in (by omega) (by omega)]; rfl
      cases hr : rc[j]
      · have e4 : (ins.map bi)[j]? = some (.int .i64 0) := by rw [List.getElem?_map, List.getElem?_eq_getElem hji, he, hr]; rfl
        rw [hr] at e5
        repeat (first | apply WK.seq | apply WK.block | apply WK.skipSeq | apply WK.skipBlock | apply WK.retSeq | apply WK.retBlock | apply WK.exitSeq | apply WK.exitHere | refine WK.exitOn rfl ?_ | ((first | (refine WK.rgn ?_ ?_; kernel_rfl) | refine AtCall.now ?_); simp (config := { maxSteps := 1000000 }) only [SS, forall_const, wx, tguard, acallee, top, tval, tor, tload, tload2, tload3, tstore, tstore2, tstore3, tidx, tidx2, tfa, tfa2, tlen2, tpick, textr, tbox, talloc, tmake, tbuild, tbs, tbs2, tfld, tfld2, tsl, tsl2, tsl3, tix, tix1, tix2, tap, tap2, tap3, tap4, tsrc, tsrc2, Int.reduceEq, Int.reduceNeg, Go.AM.bound, afill, Nat.reduceGT, Nat.reduceLT, still, still1, flat1, one, Go.AM.splice, Nat.reduceLeDiff, vsh, vbin, vun, vconv, fput, Nat.reduceEqDiff, ↓reduceIte, reduceCtorEq, Int.reduceToNat, Int.reduceLE, Int.reduceLT, Nat.reduceAdd, Nat.reduceMul, f3, f81, f82, f83, hjv, hxc7, hin, e4, e5, ff_6]) | (refine WK.condT ?_ ?_; focus (simp only [ev_tmp, ev_const, fset_apply, Nat.reduceEqDiff, ↓reduceIte, decide_true, decide_false, f3, f81, f82, f83, hjv, hxc7, hin, e4, e5, ff_6]; done)) | (refine WK.condF ?_ ?_; focus (simp only [ev_tmp, ev_const, fset_apply, Nat.reduceEqDiff, ↓reduceIte, decide_true, decide_false, f3, f81, f82, f83, hjv, hxc7, hin, e4, e5, ff_6]; done)))
        refine ih (g.vars.length - (j + 1)) (by omega) _ ⟨j + 1, rfl, rfl, f3, f81, f82, ?_, hjv, rfl⟩
        simp only [packed, fset_apply, Nat.reduceEqDiff, ↓reduceIte, List.getD_cons_zero, List.getD_cons_succ, hw83, ff_6]
      · have e4 : (ins.map bi)[j]? = some (.int .i64 1) := by rw [List.getElem?_map, List.getElem?_eq_getElem hji, he, hr]; rfl
        rw [hr] at e5
        repeat (first | apply WK.seq | apply WK.block | apply WK.skipSeq | apply WK.skipBlock | apply WK.retSeq | apply WK.retBlock | apply WK.exitSeq | apply WK.exitHere | refine WK.exitOn rfl ?_ | ((first | (refine WK.rgn ?_ ?_; kernel_rfl) | refine AtCall.now ?_); simp (config := { maxSteps := 1000000 }) only [SS, forall_const, wx, tguard, acallee, top, tval, tor, tload, tload2, tload3, tstore, tstore2, tstore3, tidx, tidx2, tfa, tfa2, tlen2, tpick, textr, tbox, talloc, tmake, tbuild, tbs, tbs2, tfld, tfld2, tsl, tsl2, tsl3, tix, tix1, tix2, tap, tap2, tap3, tap4, tsrc, tsrc2, Int.reduceEq, Int.reduceNeg, Go.AM.bound, afill, Nat.reduceGT, Nat.reduceLT, still, still1, flat1, one, Go.AM.splice, Nat.reduceLeDiff, vsh, vbin, vun, vconv, fput, Nat.reduceEqDiff, ↓reduceIte, reduceCtorEq, Int.reduceToNat, Int.reduceLE, Int.reduceLT, Nat.reduceAdd, Nat.reduceMul, f3, f81, f82, f83, hjv, hxc7, hin, e4, e5, ff_6]) | (refine WK.condT ?_ ?_; focus (simp only [ev_tmp, ev_const, fset_apply, Nat.reduceEqDiff, ↓reduceIte, decide_true, decide_false, f3, f81, f82, f83, hjv, hxc7, hin, e4, e5, ff_6]; done)) | (refine WK.condF ?_ ?_; focus (simp only [ev_tmp, ev_const, fset_apply, Nat.reduceEqDiff, ↓reduceIte, decide_true, decide_false, f3, f81, f82, f83, hjv, hxc7, hin, e4, e5, ff_6]; done)))
        refine ih (g.vars.length - (j + 1)) (by omega) _ ⟨j + 1, rfl, rfl, f3, f81, f82, ?_, hjv, rfl⟩
        simp only [packed, fset_apply, Nat.reduceEqDiff, ↓reduceIte, List.getD_cons_zero, List.getD_cons_succ, hw83, ff_6]
    · repeat (first | apply WK.seq | apply WK.block | apply WK.skipSeq | apply WK.skipBlock | apply WK.retSeq | apply WK.retBlock | apply WK.exitSeq | apply WK.exitHere | refine WK.exitOn rfl ?_ | ((first | (refine WK.rgn ?_ ?_; kernel_rfl) | refine AtCall.now ?_); simp (config := { maxSteps := 1000000 }) only [SS, forall_const, wx, tguard, acallee, top, tval, tor, tload, tload2, tload3, tstore, tstore2, tstore3, tidx, tidx2, tfa, tfa2, tlen2, tpick, textr, tbox, talloc, tmake, tbuild, tbs, tbs2, tfld, tfld2, tsl, tsl2, tsl3, tix, tix1, tix2, tap, tap2, tap3, tap4, tsrc, tsrc2, Int.reduceEq, Int.reduceNeg, Go.AM.bound, afill, Nat.reduceGT, Nat.reduceLT, still, still1, flat1, one, Go.AM.splice, Nat.reduceLeDiff, vsh, vbin, vun, vconv, fput, Nat.reduceEqDiff, ↓reduceIte, reduceCtorEq, Int.reduceToNat, Int.reduceLE, Int.reduceLT, Nat.reduceAdd, Nat.reduceMul, f82, f83, hjv, ff_6]) | (refine WK.condT ?_ ?_; focus (simp only [ev_tmp, ev_const, fset_apply, Nat.reduceEqDiff, ↓reduceIte, decide_true, decide_false, f82, f83, hjv, ff_6]; done)) | (refine WK.condF ?_ ?_; focus (simp only [ev_tmp, ev_const, fset_apply, Nat.reduceEqDiff, ↓reduceIte, decide_true, decide_false, f82, f83, hjv, ff_6]; done)))
      (first | refine WK.retNil ⟨Or.inr rfl, _, rfl, ?_, ?_⟩ | refine WK.skipNil ⟨Or.inl rfl, _, rfl, ?_, ?_⟩)
      · exact fun y hy => (hkeep y (by omega)).trans (kk6.keep y hy)
      · simp only [packed, fset_apply, Nat.reduceEqDiff, ↓reduceIte, List.getD_cons_zero, List.getD_cons_succ, ff_6]
end Go.Proofs.Ytplnndgdklfnfaa
