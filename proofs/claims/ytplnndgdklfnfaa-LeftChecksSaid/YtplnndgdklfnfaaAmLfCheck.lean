/- A part of a proof. Its conditions: none. -/
import Derived.Test.YtplnndgdklfnfaaAmLfForm
set_option linter.all false
namespace Go.Proofs.Ytplnndgdklfnfaa
open Go.AM

set_option maxHeartbeats 8000000 in
theorem replay_gives {v : Value} {g : Gram} {p q : Option Addr} {form rules : List Int} {n : Nat} {H : Heap} (hw : WF n H) (hg : RG H v g) (wg : WG g) (ok : RightOK g) (hp : RA (Value.int .i64) H p form) (hq : RA (Value.int .i64) H q rules) (hl : form.length + 24 * rules.length + 24 ≤ 2147483648) :
    Gives Try.prog 17 [v, .slice p form.length form.length, .slice q rules.length rules.length] n H fun v _ H' => ∃ p', v = .tuple #[.slice p' (replayL g form rules).1.length (replayL g form rules).1.length, .int .i64 ((replayL g form rules).2.1 : Nat), .int .i64 ((replayL g form rules).2.2 : Nat)] ∧ RS (Value.int .i64) H' p' (replayL g form rules).1 := by
  have hg0 := hg
  obtain ⟨pt, pv, pr, rfl, ht, hv, hr⟩ := hg
  refine Gives.of orders ok17 (Nat.le_of_ble_eq_true rfl) ?_
  have hk := Kp.new n H (.cells (gcells pt pv pr g) 25 true)
  have hb := hset_at H n (.cells (gcells pt pv pr g) 25 true)
-- function 17
  repeat (first | apply WK.seq | apply WK.block | apply WK.skipSeq | apply WK.skipBlock | apply WK.retSeq | apply WK.retBlock | apply WK.exitSeq | apply WK.exitHere | refine WK.exitOn rfl ?_)
  (refine WK.rgn ?_ ?_; kernel_rfl; simp (config := { maxSteps := 1000000 }) only [SS, forall_const, wx, tguard, acallee, top, tval, fput, tor, vsh, vbin, tload, tload2, tload3, tidx, tidx2, tlen2, tbox, one, Int.reduceEq, Int.reduceNeg, Nat.reduceGT, Nat.reduceLT, Nat.reduceLeDiff, Nat.reduceEqDiff, ↓reduceIte, reduceCtorEq, Int.reduceToNat, Int.reduceLE, Int.reduceLT, Nat.reduceAdd, Nat.reduceMul, box_cells, box_one, ff_17])
  have hw1 := hk.wf hw
  replace hp := hp.mono hw hk
  replace hq := hq.mono hw hk
  replace hr := hr.mono hw hk
  generalize hset H n (.cells (gcells pt pv pr g) 25 true) = H1 at *
  by_cases h4 : (4096 : Int) < rules.length
  · repeat (first | apply WK.seq | apply WK.block | apply WK.skipSeq | apply WK.skipBlock | apply WK.retSeq | apply WK.retBlock | apply WK.exitSeq | apply WK.exitHere | refine WK.exitOn rfl ?_ | ((first | (refine WK.rgn ?_ ?_; kernel_rfl) | refine AtCall.now ?_); simp (config := { maxSteps := 1000000 }) only [SS, forall_const, wx, tguard, acallee, top, tval, fput, tor, vsh, vbin, tload, tload2, tload3, tidx, tidx2, tlen2, tbox, one, Int.reduceEq, Int.reduceNeg, Nat.reduceGT, Nat.reduceLT, Nat.reduceLeDiff, Nat.reduceEqDiff, ↓reduceIte, reduceCtorEq, Int.reduceToNat, Int.reduceLE, Int.reduceLT, Nat.reduceAdd, Nat.reduceMul, h4, ff_17]) | (refine WK.condT ?_ ?_; focus (simp only [ev_tmp, ev_const, fset_apply, Nat.reduceEqDiff, ↓reduceIte, decide_true, decide_false, h4, ff_17]; done)) | (refine WK.condF ?_ ?_; focus (simp only [ev_tmp, ev_const, fset_apply, Nat.reduceEqDiff, ↓reduceIte, decide_true, decide_false, h4, ff_17]; done)))
    (first | refine WK.retNil ⟨Or.inr rfl, _, rfl, ?_, ?_⟩ | refine WK.skipNil ⟨Or.inl rfl, _, rfl, ?_, ?_⟩)
    · exact hk.keep
    · simp only [packed, fset_apply, Nat.reduceEqDiff, ↓reduceIte, List.getD_cons_zero, List.getD_cons_succ, ff_17]
      have e : replayL g form rules = ([], 0, 7) := by unfold replayL; rw [if_pos (by omega)]
      rw [e]
      exact ⟨none, rfl, .inl ⟨rfl, rfl⟩⟩
  have eL : replayL g form rules = replayS g form rules 0 := by unfold replayL; rw [if_neg (by omega)]
  rw [eL]
  repeat (first | apply WK.seq | apply WK.block | apply WK.skipSeq | apply WK.skipBlock | apply WK.retSeq | apply WK.retBlock | apply WK.exitSeq | apply WK.exitHere | refine WK.exitOn rfl ?_ | ((first | (refine WK.rgn ?_ ?_; kernel_rfl) | refine AtCall.now ?_); simp (config := { maxSteps := 1000000 }) only [SS, forall_const, wx, tguard, acallee, top, tval, fput, tor, vsh, vbin, tload, tload2, tload3, tidx, tidx2, tlen2, tbox, one, Int.reduceEq, Int.reduceNeg, Nat.reduceGT, Nat.reduceLT, Nat.reduceLeDiff, Nat.reduceEqDiff, ↓reduceIte, reduceCtorEq, Int.reduceToNat, Int.reduceLE, Int.reduceLT, Nat.reduceAdd, Nat.reduceMul, h4, hb, gc_len, gc_all, ff_17]) | (refine WK.condT ?_ ?_; focus (simp only [ev_tmp, ev_const, fset_apply, Nat.reduceEqDiff, ↓reduceIte, decide_true, decide_false, h4, hb, gc_len, gc_all, ff_17]; done)) | (refine WK.condF ?_ ?_; focus (simp only [ev_tmp, ev_const, fset_apply, Nat.reduceEqDiff, ↓reduceIte, decide_true, decide_false, h4, hb, gc_len, gc_all, ff_17]; done)))
  refine AtCall.by (begin_gives (g := g) hw1 hp (by omega)) ?_
  rintro v n2 H2 k2 ⟨r, hr0, rfl, hrun⟩
  simp (config := { maxSteps := 1000000 }) only [SS, forall_const, wx, tguard, acallee, top, tval, fput, tor, vsh, vbin, tload, tload2, tload3, tidx, tidx2, tlen2, tbox, one, Int.reduceEq, Int.reduceNeg, Nat.reduceGT, Nat.reduceLT, Nat.reduceLeDiff, Nat.reduceEqDiff, ↓reduceIte, reduceCtorEq, Int.reduceToNat, Int.reduceLE, Int.reduceLT, Nat.reduceAdd, Nat.reduceMul, ff_17]
  repeat (first | apply WK.seq | apply WK.block | apply WK.skipSeq | apply WK.skipBlock | apply WK.retSeq | apply WK.retBlock | apply WK.exitSeq | apply WK.exitHere | refine WK.exitOn rfl ?_ | ((first | (refine WK.rgn ?_ ?_; kernel_rfl) | refine AtCall.now ?_); simp (config := { maxSteps := 1000000 }) only [SS, forall_const, wx, tguard, acallee, top, tval, fput, tor, vsh, vbin, tload, tload2, tload3, tidx, tidx2, tlen2, tbox, one, Int.reduceEq, Int.reduceNeg, Nat.reduceGT, Nat.reduceLT, Nat.reduceLeDiff, Nat.reduceEqDiff, ↓reduceIte, reduceCtorEq, Int.reduceToNat, Int.reduceLE, Int.reduceLT, Nat.reduceAdd, Nat.reduceMul, ff_17]) | (refine WK.condT ?_ ?_; focus (simp only [ev_tmp, ev_const, fset_apply, Nat.reduceEqDiff, ↓reduceIte, decide_true, decide_false, ff_17]; done)) | (refine WK.condF ?_ ?_; focus (simp only [ev_tmp, ev_const, fset_apply, Nat.reduceEqDiff, ↓reduceIte, decide_true, decide_false, ff_17]; done)))
  have hform := layS_form [] form
  rw [List.nil_append] at hform
  have hlaid := layS_laid (done := []) (pend := form) (fun s hs => by cases hs)
  refine WK.loop (fun k s => ∃ (j : Nat) (d p' : List Int), Kp (n + 1) H1 s.n s.H ∧ Runs (n + 1) s.H r pt pv pr g d p'.reverse ∧ Laid d p' ∧ (d ++ p').length ≤ form.length + 24 * j ∧ replayS g form rules 0 = replayS g (d ++ p') (rules.drop j) j ∧ s.f 9 = .pointer (some ⟨r, 0, none⟩) ∧ s.f 19 = .slice q rules.length rules.length ∧ s.f 20 = .int .i64 rules.length ∧ s.f 21 = .int .i64 (j : Nat) ∧ j ≤ rules.length ∧ k = rules.length - j) rules.length ?_ ?_
  · exact ⟨0, _, _, k2, hrun, hlaid, by rw [hform]; omega, by rw [hform]; rfl, rfl, rfl, rfl, rfl, Nat.zero_le _, rfl⟩
  rintro kk ⟨f, n4, H4⟩ ⟨j, d, p', kp, hrun, hlaid, hlen, hrep, f9, f19, f20, f21, hj, rfl⟩ ih
  simp only at f9 f19 f20 f21 ih kp hrun
  have hw4 := kp.wf hw1
  by_cases hjl : j < rules.length
  · have hjw : IntKind.i64.wrap ((j : Int) + 1) = ((j + 1 : Nat) : Int) := by rw [wrap_in (by omega) (by omega)]; rfl
    have hq4 := hq.mono hw1 kp
    obtain ⟨x, kx, ds, tx, ox, rfl, hx, ex⟩ := hq4.at hjl
    rw [List.length_append] at hlen
    repeat (first | apply WK.seq | apply WK.block | apply WK.skipSeq | apply WK.skipBlock | apply WK.retSeq | apply WK.retBlock | apply WK.exitSeq | apply WK.exitHere | refine WK.exitOn rfl ?_ | ((first | (refine WK.rgn ?_ ?_; kernel_rfl) | refine AtCall.now ?_); simp (config := { maxSteps := 1000000 }) only [SS, forall_const, wx, tguard, acallee, top, tval, fput, tor, vsh, vbin, tload, tload2, tload3, tidx, tidx2, tlen2, tbox, one, Int.reduceEq, Int.reduceNeg, Nat.reduceGT, Nat.reduceLT, Nat.reduceLeDiff, Nat.reduceEqDiff, ↓reduceIte, reduceCtorEq, Int.reduceToNat, Int.reduceLE, Int.reduceLT, Nat.reduceAdd, Nat.reduceMul, f9, f19, f20, f21, hjl, hx, ex, ff_17]) | (refine WK.condT ?_ ?_; focus (simp only [ev_tmp, ev_const, fset_apply, Nat.reduceEqDiff, ↓reduceIte, decide_true, decide_false, f9, f19, f20, f21, hjl, hx, ex, ff_17]; done)) | (refine WK.condF ?_ ?_; focus (simp only [ev_tmp, ev_const, fset_apply, Nat.reduceEqDiff, ↓reduceIte, decide_true, decide_false, f9, f19, f20, f21, hjl, hx, ex, ff_17]; done)))
    refine AtCall.byX (stepr_gives (q := rules[j]) hw1 kp hr0 hrun hlaid hr ok (by omega)) ?_
    rintro v n5 H5 kx5 ⟨rfl, hres⟩
    have hdrop : rules.drop j = rules[j] :: rules.drop (j + 1) := List.drop_eq_getElem_cons hjl
    rw [hdrop] at hrep
    simp only [replayS] at hrep
    have hsl := stepS_len ok (d ++ p') rules[j]
    rw [List.length_append] at hsl
    have kp5 : Kp (n + 1) H1 n5 H5 := ⟨by have := kp.le; have := kx5.le; omega, fun y hy => (kx5.keep y (by have := kp.le; omega) (by omega)).trans (kp.keep y hy), fun h => kx5.wf (kp.wf h)⟩
    by_cases he : (stepS g (d ++ p') rules[j]).2 = 0
    · rw [if_pos he] at hrep
      obtain ⟨d2, p2, hrun2, hlaid2, hfe⟩ := hres he
      rw [he]
      have h00 : (((0 : Nat) : Int) = 0) = True := by simp
      simp (config := { maxSteps := 1000000 }) only [SS, forall_const, wx, tguard, acallee, top, tval, fput, tor, vsh, vbin, tload, tload2, tload3, tidx, tidx2, tlen2, tbox, one, Int.reduceEq, Int.reduceNeg, Nat.reduceGT, Nat.reduceLT, Nat.reduceLeDiff, Nat.reduceEqDiff, ↓reduceIte, reduceCtorEq, Int.reduceToNat, Int.reduceLE, Int.reduceLT, Nat.reduceAdd, Nat.reduceMul, ff_17]
      repeat (first | apply WK.seq | apply WK.block | apply WK.skipSeq | apply WK.skipBlock | apply WK.retSeq | apply WK.retBlock | apply WK.exitSeq | apply WK.exitHere | refine WK.exitOn rfl ?_ | ((first | (refine WK.rgn ?_ ?_; kernel_rfl) | refine AtCall.now ?_); simp (config := { maxSteps := 1000000 }) only [SS, forall_const, wx, tguard, acallee, top, tval, fput, tor, vsh, vbin, tload, tload2, tload3, tidx, tidx2, tlen2, tbox, one, Int.reduceEq, Int.reduceNeg, Nat.reduceGT, Nat.reduceLT, Nat.reduceLeDiff, Nat.reduceEqDiff, ↓reduceIte, reduceCtorEq, Int.reduceToNat, Int.reduceLE, Int.reduceLT, Nat.reduceAdd, Nat.reduceMul, f21, h00, ff_17]) | (refine WK.condT ?_ ?_; focus (simp only [ev_tmp, ev_const, fset_apply, Nat.reduceEqDiff, ↓reduceIte, decide_true, decide_false, f21, h00, ff_17]; done)) | (refine WK.condF ?_ ?_; focus (simp only [ev_tmp, ev_const, fset_apply, Nat.reduceEqDiff, ↓reduceIte, decide_true, decide_false, f21, h00, ff_17]; done)))
      refine ih (rules.length - (j + 1)) (by omega) _ ⟨j + 1, d2, p2, kp5, hrun2, hlaid2, by rw [hfe]; omega, by rw [hfe]; exact hrep, f9, f19, f20, ?_, hjl, rfl⟩
      simp only [packed, fset_apply, Nat.reduceEqDiff, ↓reduceIte, List.getD_cons_zero, List.getD_cons_succ, f21, hjw, ff_17]
    · rw [if_neg he] at hrep
      have he' : (((stepS g (d ++ p') rules[j]).2 : Nat) : Int) = 0 ↔ False := by simp; exact he
      simp (config := { maxSteps := 1000000 }) only [SS, forall_const, wx, tguard, acallee, top, tval, fput, tor, vsh, vbin, tload, tload2, tload3, tidx, tidx2, tlen2, tbox, one, Int.reduceEq, Int.reduceNeg, Nat.reduceGT, Nat.reduceLT, Nat.reduceLeDiff, Nat.reduceEqDiff, ↓reduceIte, reduceCtorEq, Int.reduceToNat, Int.reduceLE, Int.reduceLT, Nat.reduceAdd, Nat.reduceMul, ff_17]
      repeat (first | apply WK.seq | apply WK.block | apply WK.skipSeq | apply WK.skipBlock | apply WK.retSeq | apply WK.retBlock | apply WK.exitSeq | apply WK.exitHere | refine WK.exitOn rfl ?_ | ((first | (refine WK.rgn ?_ ?_; kernel_rfl) | refine AtCall.now ?_); simp (config := { maxSteps := 1000000 }) only [SS, forall_const, wx, tguard, acallee, top, tval, fput, tor, vsh, vbin, tload, tload2, tload3, tidx, tidx2, tlen2, tbox, one, Int.reduceEq, Int.reduceNeg, Nat.reduceGT, Nat.reduceLT, Nat.reduceLeDiff, Nat.reduceEqDiff, ↓reduceIte, reduceCtorEq, Int.reduceToNat, Int.reduceLE, Int.reduceLT, Nat.reduceAdd, Nat.reduceMul, f21, he', ff_17]) | (refine WK.condT ?_ ?_; focus (simp only [ev_tmp, ev_const, fset_apply, Nat.reduceEqDiff, ↓reduceIte, decide_true, decide_false, f21, he', ff_17]; done)) | (refine WK.condF ?_ ?_; focus (simp only [ev_tmp, ev_const, fset_apply, Nat.reduceEqDiff, ↓reduceIte, decide_true, decide_false, f21, he', ff_17]; done)))
      (first | refine WK.retNil ⟨Or.inr rfl, _, rfl, ?_, ?_⟩ | refine WK.skipNil ⟨Or.inl rfl, _, rfl, ?_, ?_⟩)
      · exact fun y hy => (kp5.keep y (by omega)).trans (hk.keep y hy)
      · simp only [packed, fset_apply, Nat.reduceEqDiff, ↓reduceIte, List.getD_cons_zero, List.getD_cons_succ, f21, ff_17]
        rw [hrep]
        exact ⟨none, rfl, .inl ⟨rfl, rfl⟩⟩
  · have hje : j = rules.length := by omega
    subst hje
    rw [List.drop_length] at hrep
    simp only [replayS] at hrep
    repeat (first | apply WK.seq | apply WK.block | apply WK.skipSeq | apply WK.skipBlock | apply WK.retSeq | apply WK.retBlock | apply WK.exitSeq | apply WK.exitHere | refine WK.exitOn rfl ?_ | ((first | (refine WK.rgn ?_ ?_; kernel_rfl) | refine AtCall.now ?_); simp (config := { maxSteps := 1000000 }) only [SS, forall_const, wx, tguard, acallee, top, tval, fput, tor, vsh, vbin, tload, tload2, tload3, tidx, tidx2, tlen2, tbox, one, Int.reduceEq, Int.reduceNeg, Nat.reduceGT, Nat.reduceLT, Nat.reduceLeDiff, Nat.reduceEqDiff, ↓reduceIte, reduceCtorEq, Int.reduceToNat, Int.reduceLE, Int.reduceLT, Nat.reduceAdd, Nat.reduceMul, f9, f20, f21, hjl, ff_17]) | (refine WK.condT ?_ ?_; focus (simp only [ev_tmp, ev_const, fset_apply, Nat.reduceEqDiff, ↓reduceIte, decide_true, decide_false, f9, f20, f21, hjl, ff_17]; done)) | (refine WK.condF ?_ ?_; focus (simp only [ev_tmp, ev_const, fset_apply, Nat.reduceEqDiff, ↓reduceIte, decide_true, decide_false, f9, f20, f21, hjl, ff_17]; done)))
    rw [List.length_append] at hlen
    refine AtCall.by (form_gives hw4 hrun (by rw [List.length_reverse]; omega)) ?_
    rintro v n5 H5 k5 ⟨p5, rfl, hp5⟩
    rw [List.reverse_reverse] at hp5
    rw [List.reverse_reverse]
    simp (config := { maxSteps := 1000000 }) only [SS, forall_const, wx, tguard, acallee, top, tval, fput, tor, vsh, vbin, tload, tload2, tload3, tidx, tidx2, tlen2, tbox, one, Int.reduceEq, Int.reduceNeg, Nat.reduceGT, Nat.reduceLT, Nat.reduceLeDiff, Nat.reduceEqDiff, ↓reduceIte, reduceCtorEq, Int.reduceToNat, Int.reduceLE, Int.reduceLT, Nat.reduceAdd, Nat.reduceMul, ff_17]
    repeat (first | apply WK.seq | apply WK.block | apply WK.skipSeq | apply WK.skipBlock | apply WK.retSeq | apply WK.retBlock | apply WK.exitSeq | apply WK.exitHere | refine WK.exitOn rfl ?_ | ((first | (refine WK.rgn ?_ ?_; kernel_rfl) | refine AtCall.now ?_); simp (config := { maxSteps := 1000000 }) only [SS, forall_const, wx, tguard, acallee, top, tval, fput, tor, vsh, vbin, tload, tload2, tload3, tidx, tidx2, tlen2, tbox, one, Int.reduceEq, Int.reduceNeg, Nat.reduceGT, Nat.reduceLT, Nat.reduceLeDiff, Nat.reduceEqDiff, ↓reduceIte, reduceCtorEq, Int.reduceToNat, Int.reduceLE, Int.reduceLT, Nat.reduceAdd, Nat.reduceMul, ff_17]) | (refine WK.condT ?_ ?_; focus (simp only [ev_tmp, ev_const, fset_apply, Nat.reduceEqDiff, ↓reduceIte, decide_true, decide_false, ff_17]; done)) | (refine WK.condF ?_ ?_; focus (simp only [ev_tmp, ev_const, fset_apply, Nat.reduceEqDiff, ↓reduceIte, decide_true, decide_false, ff_17]; done)))
    (first | refine WK.retNil ⟨Or.inr rfl, _, rfl, ?_, ?_⟩ | refine WK.skipNil ⟨Or.inl rfl, _, rfl, ?_, ?_⟩)
    · exact fun y hy => ((kp.trans k5).keep y (by omega)).trans (hk.keep y hy)
    · simp only [packed, fset_apply, Nat.reduceEqDiff, ↓reduceIte, List.getD_cons_zero, List.getD_cons_succ, ff_17]
      rw [hrep]
      exact ⟨p5, rfl, hp5⟩

/-- Are rules a derivation from a variable to a form that begins with it? -/
def wantS (g : Gram) (v : Int) (rules : List Int) : Bool := decide (0 < rules.length) && (decide ((replayL g [v] rules).2.2 = 0) && decide ((replayL g [v] rules).1[0]? = some v))

theorem one_RA {n : Nat} {H : Heap} {v : Int} {t : TypeId} {own : Bool} (h : H n = .cells [.int .i64 v] t own) : RS (Value.int .i64) H (some ⟨n, 0, none⟩) [v] :=
  .inr ⟨n, 0, _, _, _, rfl, h, by simp, fun i y e => by
    cases i with
    | zero => simp at e; subst e; rfl
    | succ i => simp at e⟩

set_option maxHeartbeats 8000000 in
theorem check_gives {v : Value} {g : Gram} {q : Option Addr} {a : Int} {rules : List Int} {n : Nat} {H : Heap} (hw : WF n H) (hg : RG H v g) (wg : WG g) (ok : RightOK g) (hq : RA (Value.int .i64) H q rules) (hl : 24 * rules.length + 64 ≤ 2147483648) :
    Gives Try.prog 18 [v, .int .i64 a, .slice q rules.length rules.length] n H fun v _ _ => v = .bool (wantS g a rules) := by
  have hg0 := hg
  obtain ⟨pt, pv, pr, rfl, ht, hv, hr⟩ := hg
  refine Gives.of orders ok18 (Nat.le_of_ble_eq_true rfl) ?_
  have hk := Kp.new n H (.cells (gcells pt pv pr g) 25 true)
  have hb := hset_at H n (.cells (gcells pt pv pr g) 25 true)
-- function 18
  repeat (first | apply WK.seq | apply WK.block | apply WK.skipSeq | apply WK.skipBlock | apply WK.retSeq | apply WK.retBlock | apply WK.exitSeq | apply WK.exitHere | refine WK.exitOn rfl ?_)
  (refine WK.rgn ?_ ?_; kernel_rfl; simp (config := { maxSteps := 1000000 }) only [SS, forall_const, wx, tguard, acallee, top, tval, fput, tor, vsh, vbin, tload, tload2, tload3, tidx, tidx2, tlen2, tpick, textr, tbox, one, tbs, tbs2, afill, Go.AM.splice, Int.reduceEq, Int.reduceNeg, Nat.reduceGT, Nat.reduceLT, Nat.reduceLeDiff, Nat.reduceEqDiff, ↓reduceIte, reduceCtorEq, Int.reduceToNat, Int.reduceLE, Int.reduceLT, Nat.reduceAdd, Nat.reduceMul, box_cells, box_one, ff_18])
  replace hq := hq.mono hw hk
  generalize hset H n (.cells (gcells pt pv pr g) 25 true) = H1 at *
  repeat (first | apply WK.seq | apply WK.block | apply WK.skipSeq | apply WK.skipBlock | apply WK.retSeq | apply WK.retBlock | apply WK.exitSeq | apply WK.exitHere | refine WK.exitOn rfl ?_)
  (refine WK.rgn ?_ ?_; kernel_rfl; simp (config := { maxSteps := 1000000 }) only [SS, forall_const, wx, tguard, acallee, top, tval, fput, tor, vsh, vbin, tload, tload2, tload3, tidx, tidx2, tlen2, tpick, textr, tbox, one, tbs, tbs2, afill, Go.AM.splice, Int.reduceEq, Int.reduceNeg, Nat.reduceGT, Nat.reduceLT, Nat.reduceLeDiff, Nat.reduceEqDiff, ↓reduceIte, reduceCtorEq, Int.reduceToNat, Int.reduceLE, Int.reduceLT, Nat.reduceAdd, Nat.reduceMul, hb, gc_len, gc_all, ebs_35_1, ff_18])
  have k1 := Kp.new (n + 1) H1 (.cells [.int .i64 a] 3 true)
  have b1 := hset_at H1 (n + 1) (.cells [.int .i64 a] 3 true)
  have kk := hk.trans k1
  replace hq := hq.mono (hk.wf hw) k1
  generalize hset H1 (n + 1) (.cells [.int .i64 a] 3 true) = H2 at *
  refine AtCall.by (replay_gives (form := [a]) (kk.wf hw) (hg0.mono hw kk) wg ok (one_RA b1).ra hq (by simp; omega)) ?_
  rintro v n3 H3 k3 ⟨p', rfl, hp'⟩
  have hwd : wantS g a rules = (decide (0 < rules.length) && (decide ((replayL g [a] rules).2.2 = 0) && decide ((replayL g [a] rules).1[0]? = some a))) := rfl
  generalize replayL g [a] rules = R at *
  obtain ⟨out, w, e⟩ := R
  simp only at hp' hwd
  simp (config := { maxSteps := 1000000 }) only [SS, forall_const, wx, tguard, acallee, top, tval, fput, tor, vsh, vbin, tload, tload2, tload3, tidx, tidx2, tlen2, tpick, textr, tbox, one, tbs, tbs2, afill, Go.AM.splice, Int.reduceEq, Int.reduceNeg, Nat.reduceGT, Nat.reduceLT, Nat.reduceLeDiff, Nat.reduceEqDiff, ↓reduceIte, reduceCtorEq, Int.reduceToNat, Int.reduceLE, Int.reduceLT, Nat.reduceAdd, Nat.reduceMul, ff_18]
  by_cases h0 : 0 < rules.length
  · have h0' : (0 : Int) < rules.length := by omega
    by_cases he : e = 0
    · subst he
      have h00 : (((0 : Nat) : Int) = 0) = True := by simp
      cases out with
      | nil =>
        have hn0 : ((0 : Int) < ((0 : Nat) : Int)) = False := by simp
        repeat (first | apply WK.seq | apply WK.block | apply WK.skipSeq | apply WK.skipBlock | apply WK.retSeq | apply WK.retBlock | apply WK.exitSeq | apply WK.exitHere | refine WK.exitOn rfl ?_ | ((first | (refine WK.rgn ?_ ?_; kernel_rfl) | refine AtCall.now ?_); simp (config := { maxSteps := 1000000 }) only [SS, forall_const, wx, tguard, acallee, top, tval, fput, tor, vsh, vbin, tload, tload2, tload3, tidx, tidx2, tlen2, tpick, textr, tbox, one, tbs, tbs2, afill, Go.AM.splice, Int.reduceEq, Int.reduceNeg, Nat.reduceGT, Nat.reduceLT, Nat.reduceLeDiff, Nat.reduceEqDiff, ↓reduceIte, reduceCtorEq, Int.reduceToNat, Int.reduceLE, Int.reduceLT, Nat.reduceAdd, Nat.reduceMul, h0', h00, hn0, ff_18]) | (refine WK.condT ?_ ?_; focus (simp only [ev_tmp, ev_const, fset_apply, Nat.reduceEqDiff, ↓reduceIte, decide_true, decide_false, h0', h00, hn0, ff_18]; done)) | (refine WK.condF ?_ ?_; focus (simp only [ev_tmp, ev_const, fset_apply, Nat.reduceEqDiff, ↓reduceIte, decide_true, decide_false, h0', h00, hn0, ff_18]; done)))
        (first | refine WK.retNil ⟨Or.inr rfl, _, rfl, ?_, ?_⟩ | refine WK.skipNil ⟨Or.inl rfl, _, rfl, ?_, ?_⟩)
        · exact (kk.trans k3).keep
        · simp only [packed, fset_apply, Nat.reduceEqDiff, ↓reduceIte, List.getD_cons_zero, List.getD_cons_succ, ff_18]
          rw [hwd]; simp
      | cons s out =>
        obtain ⟨x, kx, ds, tx, ox, rfl, hx, ex⟩ := hp'.ra.at (i := 0) (by simp)
        have ex' : ds[kx]? = some (.int .i64 s) := by simpa using ex
        obtain ⟨L, hL⟩ : ∃ L, (s :: out).length = L := ⟨_, rfl⟩
        have hL0 : 0 < L := by rw [← hL]; simp
        have hL0' : (0 : Int) < (L : Int) := by omega
        rw [hL]
        repeat (first | apply WK.seq | apply WK.block | apply WK.skipSeq | apply WK.skipBlock | apply WK.retSeq | apply WK.retBlock | apply WK.exitSeq | apply WK.exitHere | refine WK.exitOn rfl ?_ | ((first | (refine WK.rgn ?_ ?_; kernel_rfl) | refine AtCall.now ?_); simp (config := { maxSteps := 1000000 }) only [SS, forall_const, wx, tguard, acallee, top, tval, fput, tor, vsh, vbin, tload, tload2, tload3, tidx, tidx2, tlen2, tpick, textr, tbox, one, tbs, tbs2, afill, Go.AM.splice, Int.reduceEq, Int.reduceNeg, Nat.reduceGT, Nat.reduceLT, Nat.reduceLeDiff, Nat.reduceEqDiff, ↓reduceIte, reduceCtorEq, Int.reduceToNat, Int.reduceLE, Int.reduceLT, Nat.reduceAdd, Nat.reduceMul, h0', h00, hL0, hL0', hx, ex', Nat.add_zero, ff_18]) | (refine WK.condT ?_ ?_; focus (simp only [ev_tmp, ev_const, fset_apply, Nat.reduceEqDiff, ↓reduceIte, decide_true, decide_false, h0', h00, hL0, hL0', hx, ex', Nat.add_zero, ff_18]; done)) | (refine WK.condF ?_ ?_; focus (simp only [ev_tmp, ev_const, fset_apply, Nat.reduceEqDiff, ↓reduceIte, decide_true, decide_false, h0', h00, hL0, hL0', hx, ex', Nat.add_zero, ff_18]; done)))
        (first | refine WK.retNil ⟨Or.inr rfl, _, rfl, ?_, ?_⟩ | refine WK.skipNil ⟨Or.inl rfl, _, rfl, ?_, ?_⟩)
        · exact (kk.trans k3).keep
        · simp only [packed, fset_apply, Nat.reduceEqDiff, ↓reduceIte, List.getD_cons_zero, List.getD_cons_succ, ff_18]
          rw [hwd]; simp [h0]
    · have he' : (((e : Nat) : Int) = 0) = False := by simp; exact he
      repeat (first | apply WK.seq | apply WK.block | apply WK.skipSeq | apply WK.skipBlock | apply WK.retSeq | apply WK.retBlock | apply WK.exitSeq | apply WK.exitHere | refine WK.exitOn rfl ?_ | ((first | (refine WK.rgn ?_ ?_; kernel_rfl) | refine AtCall.now ?_); simp (config := { maxSteps := 1000000 }) only [SS, forall_const, wx, tguard, acallee, top, tval, fput, tor, vsh, vbin, tload, tload2, tload3, tidx, tidx2, tlen2, tpick, textr, tbox, one, tbs, tbs2, afill, Go.AM.splice, Int.reduceEq, Int.reduceNeg, Nat.reduceGT, Nat.reduceLT, Nat.reduceLeDiff, Nat.reduceEqDiff, ↓reduceIte, reduceCtorEq, Int.reduceToNat, Int.reduceLE, Int.reduceLT, Nat.reduceAdd, Nat.reduceMul, h0', he', he, ff_18]) | (refine WK.condT ?_ ?_; focus (simp only [ev_tmp, ev_const, fset_apply, Nat.reduceEqDiff, ↓reduceIte, decide_true, decide_false, h0', he', he, ff_18]; done)) | (refine WK.condF ?_ ?_; focus (simp only [ev_tmp, ev_const, fset_apply, Nat.reduceEqDiff, ↓reduceIte, decide_true, decide_false, h0', he', he, ff_18]; done)))
      (first | refine WK.retNil ⟨Or.inr rfl, _, rfl, ?_, ?_⟩ | refine WK.skipNil ⟨Or.inl rfl, _, rfl, ?_, ?_⟩)
      · exact (kk.trans k3).keep
      · simp only [packed, fset_apply, Nat.reduceEqDiff, ↓reduceIte, List.getD_cons_zero, List.getD_cons_succ, ff_18]
        rw [hwd]; simp [he]
  · have h0' : ¬ (0 : Int) < rules.length := by omega
    repeat (first | apply WK.seq | apply WK.block | apply WK.skipSeq | apply WK.skipBlock | apply WK.retSeq | apply WK.retBlock | apply WK.exitSeq | apply WK.exitHere | refine WK.exitOn rfl ?_ | ((first | (refine WK.rgn ?_ ?_; kernel_rfl) | refine AtCall.now ?_); simp (config := { maxSteps := 1000000 }) only [SS, forall_const, wx, tguard, acallee, top, tval, fput, tor, vsh, vbin, tload, tload2, tload3, tidx, tidx2, tlen2, tpick, textr, tbox, one, tbs, tbs2, afill, Go.AM.splice, Int.reduceEq, Int.reduceNeg, Nat.reduceGT, Nat.reduceLT, Nat.reduceLeDiff, Nat.reduceEqDiff, ↓reduceIte, reduceCtorEq, Int.reduceToNat, Int.reduceLE, Int.reduceLT, Nat.reduceAdd, Nat.reduceMul, h0', ff_18]) | (refine WK.condT ?_ ?_; focus (simp only [ev_tmp, ev_const, fset_apply, Nat.reduceEqDiff, ↓reduceIte, decide_true, decide_false, h0', ff_18]; done)) | (refine WK.condF ?_ ?_; focus (simp only [ev_tmp, ev_const, fset_apply, Nat.reduceEqDiff, ↓reduceIte, decide_true, decide_false, h0', ff_18]; done)))
    (first | refine WK.retNil ⟨Or.inr rfl, _, rfl, ?_, ?_⟩ | refine WK.skipNil ⟨Or.inl rfl, _, rfl, ?_, ?_⟩)
    · exact (kk.trans k3).keep
    · simp only [packed, fset_apply, Nat.reduceEqDiff, ↓reduceIte, List.getD_cons_zero, List.getD_cons_succ, ff_18]
      rw [hwd]; simp; omega
end Go.Proofs.Ytplnndgdklfnfaa
