/- A part of a proof. Its conditions: none. -/
import Derived.Test.YtemkglelfeidhaaAmJLfForm
import Derived.Test.YtemkglelfeidhaaAmD
import Derived.Test.YtemkglelfeidhaaAmC
set_option linter.all false
namespace Go.Proofs.Ytemkglelfeidhaa
open Go.AM
set_option maxRecDepth 100000
theorem stepS_err {g : Gram} {form : List Int} {r : Int} (h : (stepS g form r).2 ≠ 0) : (stepS g form r).1 = [] := by
  revert h
  unfold stepS
  split
  · simp
  · split
    · simp
    · split
      · split <;> simp
      · simp
theorem stepS_len {g : Gram} (ok : RightOK g) (form : List Int) (r : Int) : (stepS g form r).1.length ≤ form.length + 24 := by
  by_cases h : (stepS g form r).2 = 0
  · obtain ⟨i, hi, t, rest, _, e1, e2, _⟩ := stepS_ok (g := g) (form := form) (r := r) (form' := (stepS g form r).1) (by rw [← h])
    have := (ok.rule i hi).len
    rw [e2]
    conv => rhs; rw [e1]
    simp only [List.length_append, List.length_cons]
    omega
  · have := stepS_err h
    rw [this]; simp
set_option maxHeartbeats 8000000 in
theorem replay_gives {v : Value} {g : Gram} {p q : Option Addr} {form rules : List Int} {n : Nat} {H : Heap} (hw : WF n H) (hg : RG H v g) (wg : WG g) (ok : RightOK g) (hp : RA (Value.int .i64) H p form) (hq : RA (Value.int .i64) H q rules) (hl : form.length + 24 * rules.length + 24 ≤ 2147483648) :
    Gives Try.prog 31 [v, .slice p form.length form.length, .slice q rules.length rules.length] n H fun v _ H' => ∃ p', v = .tuple #[.slice p' (replayL g form rules).1.length (replayL g form rules).1.length, .int .i64 ((replayL g form rules).2.1 : Nat), .int .i64 ((replayL g form rules).2.2 : Nat)] ∧ RS (Value.int .i64) H' p' (replayL g form rules).1 := by
  have hg0 := hg
  obtain ⟨pt, pv, pr, rfl, ht, hv, hr⟩ := hg
  refine Gives.of orders ok31 (Nat.le_of_ble_eq_true rfl) ?_
  have hk := Kp.new n H (.cells (gcells pt pv pr g) 25 true)
  have hb := hset_at H n (.cells (gcells pt pv pr g) 25 true)
  repeat (first | apply WK.seq | apply WK.block | apply WK.skipSeq | apply WK.skipBlock | apply WK.retSeq | apply WK.retBlock | apply WK.exitSeq | apply WK.exitHere | refine WK.exitOn rfl ?_)
  (refine WK.rgn ?_ ?_; kernel_rfl; simp (config := { maxSteps := 1000000 }) only [SS, forall_const, wx, tguard, acallee, top, tval, fput, tor, vsh, vbin, tload, tload2, tload3, tidx, tidx2, tidx3, tlen2, tlen3, tbox, one, Int.reduceEq, Int.reduceNeg, Nat.reduceGT, Nat.reduceLT, Nat.reduceLeDiff, Nat.reduceEqDiff, ↓reduceIte, reduceCtorEq, Int.reduceToNat, Int.reduceLE, Int.reduceLT, Nat.reduceAdd, Nat.reduceMul, box_cells, box_one, ff_31])
  have hw1 := hk.wf hw
  replace hp := hp.mono hw hk
  replace hq := hq.mono hw hk
  replace hr := hr.mono hw hk
  generalize hset H n (.cells (gcells pt pv pr g) 25 true) = H1 at *
  by_cases h4 : (4096 : Int) < rules.length
  · repeat (first | apply WK.seq | apply WK.block | apply WK.skipSeq | apply WK.skipBlock | apply WK.retSeq | apply WK.retBlock | apply WK.exitSeq | apply WK.exitHere | refine WK.exitOn rfl ?_ | ((first | (refine WK.rgn ?_ ?_; kernel_rfl) | refine AtCall.now ?_); simp (config := { maxSteps := 1000000 }) only [SS, forall_const, wx, tguard, acallee, top, tval, fput, tor, vsh, vbin, tload, tload2, tload3, tidx, tidx2, tidx3, tlen2, tlen3, tbox, one, Int.reduceEq, Int.reduceNeg, Nat.reduceGT, Nat.reduceLT, Nat.reduceLeDiff, Nat.reduceEqDiff, ↓reduceIte, reduceCtorEq, Int.reduceToNat, Int.reduceLE, Int.reduceLT, Nat.reduceAdd, Nat.reduceMul, h4, ff_31]) | (refine WK.condT ?_ ?_; focus (simp only [ev_tmp, ev_const, fset_apply, Nat.reduceEqDiff, ↓reduceIte, decide_true, decide_false, h4, ff_31]; done)) | (refine WK.condF ?_ ?_; focus (simp only [ev_tmp, ev_const, fset_apply, Nat.reduceEqDiff, ↓reduceIte, decide_true, decide_false, h4, ff_31]; done)))
    (first | refine WK.retNil ⟨Or.inr rfl, _, rfl, ?_, ?_⟩ | refine WK.skipNil ⟨Or.inl rfl, _, rfl, ?_, ?_⟩)
    · exact hk.keep
    · simp only [packed, fset_apply, Nat.reduceEqDiff, ↓reduceIte, List.getD_cons_zero, List.getD_cons_succ, ff_31]
      have e : replayL g form rules = ([], 0, 7) := by unfold replayL; rw [if_pos (by omega)]
      rw [e]
      exact ⟨none, rfl, .inl ⟨rfl, rfl⟩⟩
  have eL : replayL g form rules = replayS g form rules 0 := by unfold replayL; rw [if_neg (by omega)]
  rw [eL]
  repeat (first | apply WK.seq | apply WK.block | apply WK.skipSeq | apply WK.skipBlock | apply WK.retSeq | apply WK.retBlock | apply WK.exitSeq | apply WK.exitHere | refine WK.exitOn rfl ?_ | ((first | (refine WK.rgn ?_ ?_; kernel_rfl) | refine AtCall.now ?_); simp (config := { maxSteps := 1000000 }) only [SS, forall_const, wx, tguard, acallee, top, tval, fput, tor, vsh, vbin, tload, tload2, tload3, tidx, tidx2, tidx3, tlen2, tlen3, tbox, one, Int.reduceEq, Int.reduceNeg, Nat.reduceGT, Nat.reduceLT, Nat.reduceLeDiff, Nat.reduceEqDiff, ↓reduceIte, reduceCtorEq, Int.reduceToNat, Int.reduceLE, Int.reduceLT, Nat.reduceAdd, Nat.reduceMul, h4, hb, gc_len, gc_all, ff_31]) | (refine WK.condT ?_ ?_; focus (simp only [ev_tmp, ev_const, fset_apply, Nat.reduceEqDiff, ↓reduceIte, decide_true, decide_false, h4, hb, gc_len, gc_all, ff_31]; done)) | (refine WK.condF ?_ ?_; focus (simp only [ev_tmp, ev_const, fset_apply, Nat.reduceEqDiff, ↓reduceIte, decide_true, decide_false, h4, hb, gc_len, gc_all, ff_31]; done)))
  refine AtCall.by (begin_gives (g := g) hw1 hp (by omega)) ?_
  rintro v n2 H2 k2 ⟨r, hr0, rfl, hrun⟩
  simp (config := { maxSteps := 1000000 }) only [SS, forall_const, wx, tguard, acallee, top, tval, fput, tor, vsh, vbin, tload, tload2, tload3, tidx, tidx2, tidx3, tlen2, tlen3, tbox, one, Int.reduceEq, Int.reduceNeg, Nat.reduceGT, Nat.reduceLT, Nat.reduceLeDiff, Nat.reduceEqDiff, ↓reduceIte, reduceCtorEq, Int.reduceToNat, Int.reduceLE, Int.reduceLT, Nat.reduceAdd, Nat.reduceMul, ff_31]
  repeat (first | apply WK.seq | apply WK.block | apply WK.skipSeq | apply WK.skipBlock | apply WK.retSeq | apply WK.retBlock | apply WK.exitSeq | apply WK.exitHere | refine WK.exitOn rfl ?_ | ((first | (refine WK.rgn ?_ ?_; kernel_rfl) | refine AtCall.now ?_); simp (config := { maxSteps := 1000000 }) only [SS, forall_const, wx, tguard, acallee, top, tval, fput, tor, vsh, vbin, tload, tload2, tload3, tidx, tidx2, tidx3, tlen2, tlen3, tbox, one, Int.reduceEq, Int.reduceNeg, Nat.reduceGT, Nat.reduceLT, Nat.reduceLeDiff, Nat.reduceEqDiff, ↓reduceIte, reduceCtorEq, Int.reduceToNat, Int.reduceLE, Int.reduceLT, Nat.reduceAdd, Nat.reduceMul, ff_31]) | (refine WK.condT ?_ ?_; focus (simp only [ev_tmp, ev_const, fset_apply, Nat.reduceEqDiff, ↓reduceIte, decide_true, decide_false, ff_31]; done)) | (refine WK.condF ?_ ?_; focus (simp only [ev_tmp, ev_const, fset_apply, Nat.reduceEqDiff, ↓reduceIte, decide_true, decide_false, ff_31]; done)))
  have hform := layS_form [] form
  rw [List.nil_append] at hform
  have hlaid := layS_laid (done := []) (pend := form) (fun s hs => by cases hs)
  refine WK.loop (fun k s => ∃ (j : Nat) (d p' : List Int), Kp (n + 1) H1 s.n s.H ∧ Runs (n + 1) s.H r pt pv pr g d p'.reverse ∧ Laid d p' ∧ (d ++ p').length ≤ form.length + 24 * j ∧ replayS g form rules 0 = replayS g (d ++ p') (rules.drop j) j ∧ s.f 9 = .pointer (some ⟨r, 0, none⟩) ∧ s.f 19 = .slice q rules.length rules.length ∧ s.f 20 = .int .i64 rules.length ∧ s.f 21 = .int .i64 (j : Nat) ∧ j ≤ rules.length ∧ k = rules.length - j) rules.length ?_ ?_
  · exact ⟨0, _, _, k2, hrun, hlaid, by rw [hform]; omega, by rw [hform]; rfl, rfl, rfl, rfl, rfl, Nat.zero_le _, rfl⟩
  rintro kk ⟨f, n4, H4⟩ ⟨j, d, p', kp, hrun, hlaid, hlen, hrep, f9, f19, f20, f21, hj, rfl⟩ ih
  simp only at f9 f19 f20 f21 ih kp hrun
  have hw4 := kp.wf hw1
  by_cases hjl : j < rules.length
  · have hjw : IntKind.i64.wrap ((j : Int) + 1) = ((j + 1 : Nat) : Int) := by rw [wrap_in (by omega) (by omega)]; rfl
    have hq4 := hq.mono hw1 kp
    obtain ⟨x, kx, ds, tx, ox, rfl, hx, ex⟩ := hq4.at hjl
    rw [List.length_append] at hlen
    repeat (first | apply WK.seq | apply WK.block | apply WK.skipSeq | apply WK.skipBlock | apply WK.retSeq | apply WK.retBlock | apply WK.exitSeq | apply WK.exitHere | refine WK.exitOn rfl ?_ | ((first | (refine WK.rgn ?_ ?_; kernel_rfl) | refine AtCall.now ?_); simp (config := { maxSteps := 1000000 }) only [SS, forall_const, wx, tguard, acallee, top, tval, fput, tor, vsh, vbin, tload, tload2, tload3, tidx, tidx2, tidx3, tlen2, tlen3, tbox, one, Int.reduceEq, Int.reduceNeg, Nat.reduceGT, Nat.reduceLT, Nat.reduceLeDiff, Nat.reduceEqDiff, ↓reduceIte, reduceCtorEq, Int.reduceToNat, Int.reduceLE, Int.reduceLT, Nat.reduceAdd, Nat.reduceMul, f9, f19, f20, f21, hjl, hx, ex, ff_31]) | (refine WK.condT ?_ ?_; focus (simp only [ev_tmp, ev_const, fset_apply, Nat.reduceEqDiff, ↓reduceIte, decide_true, decide_false, f9, f19, f20, f21, hjl, hx, ex, ff_31]; done)) | (refine WK.condF ?_ ?_; focus (simp only [ev_tmp, ev_const, fset_apply, Nat.reduceEqDiff, ↓reduceIte, decide_true, decide_false, f9, f19, f20, f21, hjl, hx, ex, ff_31]; done)))
    refine AtCall.byX (stepr_gives (q := rules[j]) hw1 kp hr0 hrun hlaid hr ok (by omega)) ?_
    rintro v n5 H5 kx5 ⟨rfl, hres⟩
    have hdrop : rules.drop j = rules[j] :: rules.drop (j + 1) := List.drop_eq_getElem_cons hjl
    rw [hdrop] at hrep
    simp only [replayS] at hrep
    have hsl := stepS_len ok (d ++ p') rules[j]
    rw [List.length_append] at hsl
    have kp5 : Kp (n + 1) H1 n5 H5 := ⟨by have := kp.le; have := kx5.le; omega, fun y hy => (kx5.keep y (by have := kp.le; omega) (by omega)).trans (kp.keep y hy), fun h => kx5.wf (kp.wf h)⟩
    by_cases he : (stepS g (d ++ p') rules[j]).2 = 0
    · rw [if_pos he] at hrep
      obtain ⟨d2, p2, hrun2, hlaid2, hfe⟩ := hres he
      rw [he]
      have h00 : (((0 : Nat) : Int) = 0) = True := by simp
      simp (config := { maxSteps := 1000000 }) only [SS, forall_const, wx, tguard, acallee, top, tval, fput, tor, vsh, vbin, tload, tload2, tload3, tidx, tidx2, tidx3, tlen2, tlen3, tbox, one, Int.reduceEq, Int.reduceNeg, Nat.reduceGT, Nat.reduceLT, Nat.reduceLeDiff, Nat.reduceEqDiff, ↓reduceIte, reduceCtorEq, Int.reduceToNat, Int.reduceLE, Int.reduceLT, Nat.reduceAdd, Nat.reduceMul, ff_31]
      repeat (first | apply WK.seq | apply WK.block | apply WK.skipSeq | apply WK.skipBlock | apply WK.retSeq | apply WK.retBlock | apply WK.exitSeq | apply WK.exitHere | refine WK.exitOn rfl ?_ | ((first | (refine WK.rgn ?_ ?_; kernel_rfl) | refine AtCall.now ?_); simp (config := { maxSteps := 1000000 }) only [SS, forall_const, wx, tguard, acallee, top, tval, fput, tor, vsh, vbin, tload, tload2, tload3, tidx, tidx2, tidx3, tlen2, tlen3, tbox, one, Int.reduceEq, Int.reduceNeg, Nat.reduceGT, Nat.reduceLT, Nat.reduceLeDiff, Nat.reduceEqDiff, ↓reduceIte, reduceCtorEq, Int.reduceToNat, Int.reduceLE, Int.reduceLT, Nat.reduceAdd, Nat.reduceMul, f21, h00, ff_31]) | (refine WK.condT ?_ ?_; focus (simp only [ev_tmp, ev_const, fset_apply, Nat.reduceEqDiff, ↓reduceIte, decide_true, decide_false, f21, h00, ff_31]; done)) | (refine WK.condF ?_ ?_; focus (simp only [ev_tmp, ev_const, fset_apply, Nat.reduceEqDiff, ↓reduceIte, decide_true, decide_false, f21, h00, ff_31]; done)))
      refine ih (rules.length - (j + 1)) (by omega) _ ⟨j + 1, d2, p2, kp5, hrun2, hlaid2, by rw [hfe]; omega, by rw [hfe]; exact hrep, f9, f19, f20, ?_, hjl, rfl⟩
      simp only [packed, fset_apply, Nat.reduceEqDiff, ↓reduceIte, List.getD_cons_zero, List.getD_cons_succ, f21, hjw, ff_31]
    · rw [if_neg he] at hrep
      have he' : (((stepS g (d ++ p') rules[j]).2 : Nat) : Int) = 0 ↔ False := by simp; exact he
      simp (config := { maxSteps := 1000000 }) only [SS, forall_const, wx, tguard, acallee, top, tval, fput, tor, vsh, vbin, tload, tload2, tload3, tidx, tidx2, tidx3, tlen2, tlen3, tbox, one, Int.reduceEq, Int.reduceNeg, Nat.reduceGT, Nat.reduceLT, Nat.reduceLeDiff, Nat.reduceEqDiff, ↓reduceIte, reduceCtorEq, Int.reduceToNat, Int.reduceLE, Int.reduceLT, Nat.reduceAdd, Nat.reduceMul, ff_31]
      repeat (first | apply WK.seq | apply WK.block | apply WK.skipSeq | apply WK.skipBlock | apply WK.retSeq | apply WK.retBlock | apply WK.exitSeq | apply WK.exitHere | refine WK.exitOn rfl ?_ | ((first | (refine WK.rgn ?_ ?_; kernel_rfl) | refine AtCall.now ?_); simp (config := { maxSteps := 1000000 }) only [SS, forall_const, wx, tguard, acallee, top, tval, fput, tor, vsh, vbin, tload, tload2, tload3, tidx, tidx2, tidx3, tlen2, tlen3, tbox, one, Int.reduceEq, Int.reduceNeg, Nat.reduceGT, Nat.reduceLT, Nat.reduceLeDiff, Nat.reduceEqDiff, ↓reduceIte, reduceCtorEq, Int.reduceToNat, Int.reduceLE, Int.reduceLT, Nat.reduceAdd, Nat.reduceMul, f21, he', ff_31]) | (refine WK.condT ?_ ?_; focus (simp only [ev_tmp, ev_const, fset_apply, Nat.reduceEqDiff, ↓reduceIte, decide_true, decide_false, f21, he', ff_31]; done)) | (refine WK.condF ?_ ?_; focus (simp only [ev_tmp, ev_const, fset_apply, Nat.reduceEqDiff, ↓reduceIte, decide_true, decide_false, f21, he', ff_31]; done)))
      (first | refine WK.retNil ⟨Or.inr rfl, _, rfl, ?_, ?_⟩ | refine WK.skipNil ⟨Or.inl rfl, _, rfl, ?_, ?_⟩)
      · exact fun y hy => (kp5.keep y (by omega)).trans (hk.keep y hy)
      · simp only [packed, fset_apply, Nat.reduceEqDiff, ↓reduceIte, List.getD_cons_zero, List.getD_cons_succ, f21, ff_31]
        rw [hrep]
        exact ⟨none, rfl, .inl ⟨rfl, rfl⟩⟩
  · have hje : j = rules.length := by omega
    subst hje
    rw [List.drop_length] at hrep
    simp only [replayS] at hrep
    repeat (first | apply WK.seq | apply WK.block | apply WK.skipSeq | apply WK.skipBlock | apply WK.retSeq | apply WK.retBlock | apply WK.exitSeq | apply WK.exitHere | refine WK.exitOn rfl ?_ | ((first | (refine WK.rgn ?_ ?_; kernel_rfl) | refine AtCall.now ?_); simp (config := { maxSteps := 1000000 }) only [SS, forall_const, wx, tguard, acallee, top, tval, fput, tor, vsh, vbin, tload, tload2, tload3, tidx, tidx2, tidx3, tlen2, tlen3, tbox, one, Int.reduceEq, Int.reduceNeg, Nat.reduceGT, Nat.reduceLT, Nat.reduceLeDiff, Nat.reduceEqDiff, ↓reduceIte, reduceCtorEq, Int.reduceToNat, Int.reduceLE, Int.reduceLT, Nat.reduceAdd, Nat.reduceMul, f9, f20, f21, hjl, ff_31]) | (refine WK.condT ?_ ?_; focus (simp only [ev_tmp, ev_const, fset_apply, Nat.reduceEqDiff, ↓reduceIte, decide_true, decide_false, f9, f20, f21, hjl, ff_31]; done)) | (refine WK.condF ?_ ?_; focus (simp only [ev_tmp, ev_const, fset_apply, Nat.reduceEqDiff, ↓reduceIte, decide_true, decide_false, f9, f20, f21, hjl, ff_31]; done)))
    rw [List.length_append] at hlen
    refine AtCall.by (form_gives hw4 hrun (by rw [List.length_reverse]; omega)) ?_
    rintro v n5 H5 k5 ⟨p5, rfl, hp5⟩
    rw [List.reverse_reverse] at hp5
    rw [List.reverse_reverse]
    simp (config := { maxSteps := 1000000 }) only [SS, forall_const, wx, tguard, acallee, top, tval, fput, tor, vsh, vbin, tload, tload2, tload3, tidx, tidx2, tidx3, tlen2, tlen3, tbox, one, Int.reduceEq, Int.reduceNeg, Nat.reduceGT, Nat.reduceLT, Nat.reduceLeDiff, Nat.reduceEqDiff, ↓reduceIte, reduceCtorEq, Int.reduceToNat, Int.reduceLE, Int.reduceLT, Nat.reduceAdd, Nat.reduceMul, ff_31]
    repeat (first | apply WK.seq | apply WK.block | apply WK.skipSeq | apply WK.skipBlock | apply WK.retSeq | apply WK.retBlock | apply WK.exitSeq | apply WK.exitHere | refine WK.exitOn rfl ?_ | ((first | (refine WK.rgn ?_ ?_; kernel_rfl) | refine AtCall.now ?_); simp (config := { maxSteps := 1000000 }) only [SS, forall_const, wx, tguard, acallee, top, tval, fput, tor, vsh, vbin, tload, tload2, tload3, tidx, tidx2, tidx3, tlen2, tlen3, tbox, one, Int.reduceEq, Int.reduceNeg, Nat.reduceGT, Nat.reduceLT, Nat.reduceLeDiff, Nat.reduceEqDiff, ↓reduceIte, reduceCtorEq, Int.reduceToNat, Int.reduceLE, Int.reduceLT, Nat.reduceAdd, Nat.reduceMul, ff_31]) | (refine WK.condT ?_ ?_; focus (simp only [ev_tmp, ev_const, fset_apply, Nat.reduceEqDiff, ↓reduceIte, decide_true, decide_false, ff_31]; done)) | (refine WK.condF ?_ ?_; focus (simp only [ev_tmp, ev_const, fset_apply, Nat.reduceEqDiff, ↓reduceIte, decide_true, decide_false, ff_31]; done)))
    (first | refine WK.retNil ⟨Or.inr rfl, _, rfl, ?_, ?_⟩ | refine WK.skipNil ⟨Or.inl rfl, _, rfl, ?_, ?_⟩)
    · exact fun y hy => ((kp.trans k5).keep y (by omega)).trans (hk.keep y hy)
    · simp only [packed, fset_apply, Nat.reduceEqDiff, ↓reduceIte, List.getD_cons_zero, List.getD_cons_succ, ff_31]
      rw [hrep]
      exact ⟨p5, rfl, hp5⟩
end Go.Proofs.Ytemkglelfeidhaa

namespace Go.Proofs.Ytemkglelfeidhaa
open Go.AM
set_option maxRecDepth 100000
def leadV (form : List Int) : List Int := (form.takeWhile AM.neg).map fun s => -s - 1
def leadP (form : List Int) : Int := if form.dropWhile AM.neg = [] then -1 else ((form.takeWhile AM.neg).length : Int)
set_option maxHeartbeats 4000000 in
theorem lead_gives {p : Option Addr} {form : List Int} {n : Nat} {H : Heap} (hw : WF n H) (hp : RA (Value.int .i64) H p form) (hl : form.length ≤ 2147483648) (hr : ∀ s ∈ form, -9223372036854775808 ≤ s) :
    Gives Try.prog 32 [.slice p form.length form.length] n H fun v _ H' => ∃ p', v = .tuple #[.slice p' (leadV form).length (leadV form).length, .int .i64 (leadP form)] ∧ RS (Value.int .i64) H' p' (leadV form) := by
  refine Gives.of orders ok32 (Nat.le_of_ble_eq_true rfl) ?_
  repeat (first | apply WK.seq | apply WK.block | apply WK.skipSeq | apply WK.skipBlock | apply WK.retSeq | apply WK.retBlock | apply WK.exitSeq | apply WK.exitHere | refine WK.exitOn rfl ?_ | ((first | (refine WK.rgn ?_ ?_; kernel_rfl) | refine AtCall.now ?_); simp (config := { maxSteps := 1000000 }) only [SS, forall_const, wx, tguard, acallee, top, tval, fput, tor, vsh, vbin, vun, tload, tload2, tload3, tidx, tidx2, tidx3, tlen2, tlen3, tbs, tbs2, afill, Go.AM.splice, one, tap, tap2, tap3, tap4, tsrc, tsrc2, Int.reduceEq, Int.reduceNeg, Nat.reduceGT, Nat.reduceLT, Nat.reduceLeDiff, Nat.reduceEqDiff, ↓reduceIte, reduceCtorEq, Int.reduceToNat, Int.reduceLE, Int.reduceLT, Nat.reduceAdd, Nat.reduceMul, ff_32]) | (refine WK.condT ?_ ?_; focus (simp only [ev_tmp, ev_const, fset_apply, Nat.reduceEqDiff, ↓reduceIte, decide_true, decide_false, ff_32]; done)) | (refine WK.condF ?_ ?_; focus (simp only [ev_tmp, ev_const, fset_apply, Nat.reduceEqDiff, ↓reduceIte, decide_true, decide_false, ff_32]; done)))
  refine WK.loop (fun k s => ∃ (j : Nat) (o : List Int), Kp n H s.n s.H ∧ (s.f 4 = .slice none 0 0 ∧ o = [] ∨ ∃ y, s.f 4 = .slice (some ⟨y, 0, none⟩) o.length o.length ∧ s.H y = .cells (o.map (Value.int .i64)) 3 true ∧ n ≤ y) ∧ s.f 7 = .slice p form.length form.length ∧ s.f 8 = .int .i64 (form.length : Nat) ∧ s.f 9 = .int .i64 (j : Nat) ∧ j ≤ form.length ∧
      (∀ s ∈ form.take j, s < 0) ∧ o = (form.take j).map (fun s => -s - 1) ∧ k = form.length - j) form.length ?_ ?_
  · exact ⟨0, [], Kp.refl _ _, .inl ⟨rfl, rfl⟩, rfl, rfl, rfl, Nat.zero_le _, by simp, by simp, rfl⟩
  rintro kk ⟨f, n5, H5⟩ ⟨j, o, kp, ho, f7, f8, f9, hj, hneg, hoe, rfl⟩ ih
  simp only at ho f7 f8 f9 ih kp
  have hw5 := kp.wf hw
  have hrs : ∀ (v : Value), v = f 4 → ∃ p', v = .slice p' o.length o.length ∧ RS (Value.int .i64) H5 p' o := by
    rintro v rfl
    rcases ho with ⟨e, rfl⟩ | ⟨y, e, hy, _⟩
    · exact ⟨none, e, .inl ⟨rfl, rfl⟩⟩
    · refine ⟨_, e, .inr ⟨y, 0, _, _, _, rfl, hy, by simp, fun i s e => ?_⟩⟩
      rw [List.getElem?_map, Nat.zero_add, e]; rfl
  have hol : o.length = j := by rw [hoe, List.length_map, List.length_take]; omega
  by_cases hjl : j < form.length
  · have hjw : IntKind.i64.wrap ((j : Int) + 1) = ((j + 1 : Nat) : Int) := by rw [wrap_in (by omega) (by omega)]; rfl
    obtain ⟨x, kx, ds, tx, ox, rfl, hx, ex⟩ := (hp.mono hw kp).at hjl
    have htj : form.take (j + 1) = form.take j ++ [form[j]] := List.take_succ_eq_append_getElem hjl
    repeat (first | apply WK.seq | apply WK.block | apply WK.skipSeq | apply WK.skipBlock | apply WK.retSeq | apply WK.retBlock | apply WK.exitSeq | apply WK.exitHere | refine WK.exitOn rfl ?_ | ((first | (refine WK.rgn ?_ ?_; kernel_rfl) | refine AtCall.now ?_); simp (config := { maxSteps := 1000000 }) only [SS, forall_const, wx, tguard, acallee, top, tval, fput, tor, vsh, vbin, vun, tload, tload2, tload3, tidx, tidx2, tidx3, tlen2, tlen3, tbs, tbs2, afill, Go.AM.splice, one, tap, tap2, tap3, tap4, tsrc, tsrc2, Int.reduceEq, Int.reduceNeg, Nat.reduceGT, Nat.reduceLT, Nat.reduceLeDiff, Nat.reduceEqDiff, ↓reduceIte, reduceCtorEq, Int.reduceToNat, Int.reduceLE, Int.reduceLT, Nat.reduceAdd, Nat.reduceMul, f7, f8, f9, hjl, hx, ex, ff_32]) | (refine WK.condT ?_ ?_; focus (simp only [ev_tmp, ev_const, fset_apply, Nat.reduceEqDiff, ↓reduceIte, decide_true, decide_false, f7, f8, f9, hjl, hx, ex, ff_32]; done)) | (refine WK.condF ?_ ?_; focus (simp only [ev_tmp, ev_const, fset_apply, Nat.reduceEqDiff, ↓reduceIte, decide_true, decide_false, f7, f8, f9, hjl, hx, ex, ff_32]; done)))
    refine AtCall.by (isVar_gives _ _ _) ?_
    rintro v n2 H2 hk2 ⟨rfl, rfl, rfl⟩
    by_cases h0 : 0 ≤ form[j]
    · simp (config := { maxSteps := 1000000 }) only [SS, forall_const, wx, tguard, acallee, top, tval, fput, tor, vsh, vbin, vun, tload, tload2, tload3, tidx, tidx2, tidx3, tlen2, tlen3, tbs, tbs2, afill, Go.AM.splice, one, tap, tap2, tap3, tap4, tsrc, tsrc2, Int.reduceEq, Int.reduceNeg, Nat.reduceGT, Nat.reduceLT, Nat.reduceLeDiff, Nat.reduceEqDiff, ↓reduceIte, reduceCtorEq, Int.reduceToNat, Int.reduceLE, Int.reduceLT, Nat.reduceAdd, Nat.reduceMul, h0, ff_32]
      repeat (first | apply WK.seq | apply WK.block | apply WK.skipSeq | apply WK.skipBlock | apply WK.retSeq | apply WK.retBlock | apply WK.exitSeq | apply WK.exitHere | refine WK.exitOn rfl ?_ | ((first | (refine WK.rgn ?_ ?_; kernel_rfl) | refine AtCall.now ?_); simp (config := { maxSteps := 1000000 }) only [SS, forall_const, wx, tguard, acallee, top, tval, fput, tor, vsh, vbin, vun, tload, tload2, tload3, tidx, tidx2, tidx3, tlen2, tlen3, tbs, tbs2, afill, Go.AM.splice, one, tap, tap2, tap3, tap4, tsrc, tsrc2, Int.reduceEq, Int.reduceNeg, Nat.reduceGT, Nat.reduceLT, Nat.reduceLeDiff, Nat.reduceEqDiff, ↓reduceIte, reduceCtorEq, Int.reduceToNat, Int.reduceLE, Int.reduceLT, Nat.reduceAdd, Nat.reduceMul, ff_32]) | (refine WK.condT ?_ ?_; focus (simp only [ev_tmp, ev_const, fset_apply, Nat.reduceEqDiff, ↓reduceIte, decide_true, decide_false, ff_32]; done)) | (refine WK.condF ?_ ?_; focus (simp only [ev_tmp, ev_const, fset_apply, Nat.reduceEqDiff, ↓reduceIte, decide_true, decide_false, ff_32]; done)))
      (first | refine WK.retNil ⟨Or.inr rfl, _, rfl, ?_, ?_⟩ | refine WK.skipNil ⟨Or.inl rfl, _, rfl, ?_, ?_⟩)
      · exact kp.keep
      · simp only [packed, fset_apply, Nat.reduceEqDiff, ↓reduceIte, List.getD_cons_zero, List.getD_cons_succ, ff_32]
        obtain ⟨e1, e2⟩ := tw_at hjl hneg h0
        obtain ⟨p', e3, h3⟩ := hrs _ rfl
        rw [e3]
        unfold leadV leadP
        rw [e1, e2, ← hoe]
        refine ⟨p', ?_, h3⟩
        rw [if_neg (List.cons_ne_nil _ _), List.length_take, Nat.min_eq_left (Nat.le_of_lt hjl)]
    · have hn := bnot_i64 (n := form[j]) (hr _ (List.getElem_mem hjl)) (by omega)
      have hneg' : ∀ s ∈ form.take (j + 1), s < 0 := fun s hs => by
        rw [htj] at hs
        rcases List.mem_append.1 hs with hs | hs
        · exact hneg s hs
        · have : s = form[j] := by simpa using hs
          omega
      have hoe' : o ++ [-form[j] - 1] = (form.take (j + 1)).map (fun s => -s - 1) := by rw [htj, List.map_append, ← hoe]; rfl
      rcases ho with ⟨e, rfl⟩ | ⟨y, e, hy, hyn⟩
      · simp (config := { maxSteps := 1000000 }) only [SS, forall_const, wx, tguard, acallee, top, tval, fput, tor, vsh, vbin, vun, tload, tload2, tload3, tidx, tidx2, tidx3, tlen2, tlen3, tbs, tbs2, afill, Go.AM.splice, one, tap, tap2, tap3, tap4, tsrc, tsrc2, Int.reduceEq, Int.reduceNeg, Nat.reduceGT, Nat.reduceLT, Nat.reduceLeDiff, Nat.reduceEqDiff, ↓reduceIte, reduceCtorEq, Int.reduceToNat, Int.reduceLE, Int.reduceLT, Nat.reduceAdd, Nat.reduceMul, h0, ff_32]
        repeat (first | apply WK.seq | apply WK.block | apply WK.skipSeq | apply WK.skipBlock | apply WK.retSeq | apply WK.retBlock | apply WK.exitSeq | apply WK.exitHere | refine WK.exitOn rfl ?_ | ((first | (refine WK.rgn ?_ ?_; kernel_rfl) | refine AtCall.now ?_); simp (config := { maxSteps := 1000000 }) only [SS, forall_const, wx, tguard, acallee, top, tval, fput, tor, vsh, vbin, vun, tload, tload2, tload3, tidx, tidx2, tidx3, tlen2, tlen3, tbs, tbs2, afill, Go.AM.splice, one, tap, tap2, tap3, tap4, tsrc, tsrc2, Int.reduceEq, Int.reduceNeg, Nat.reduceGT, Nat.reduceLT, Nat.reduceLeDiff, Nat.reduceEqDiff, ↓reduceIte, reduceCtorEq, Int.reduceToNat, Int.reduceLE, Int.reduceLT, Nat.reduceAdd, Nat.reduceMul, e, f9, hjw, hn, ff_32]) | (refine WK.condT ?_ ?_; focus (simp only [ev_tmp, ev_const, fset_apply, Nat.reduceEqDiff, ↓reduceIte, decide_true, decide_false, e, f9, hjw, hn, ff_32]; done)) | (refine WK.condF ?_ ?_; focus (simp only [ev_tmp, ev_const, fset_apply, Nat.reduceEqDiff, ↓reduceIte, decide_true, decide_false, e, f9, hjw, hn, ff_32]; done)))
        refine ih (form.length - (j + 1)) (by omega) _ ⟨j + 1, [-form[j] - 1], (kp.trans (Kp.new n2 H2 (.cells [.int .i64 (-form[j] - 1)] 3 true))).trans (Kp.new (n2 + 1) _ (.cells [.int .i64 (-form[j] - 1)] 3 true)), .inr ⟨n2 + 1, rfl, hset_at _ _ _, by have := kp.le; omega⟩, f7, f8, ?_, hjl, hneg', hoe', rfl⟩
        simp only [packed, fset_apply, Nat.reduceEqDiff, ↓reduceIte, List.getD_cons_zero, List.getD_cons_succ, f9, hjw, ff_32]
      · have hyl := live_lt hw5 (live_of hy)
        have v1 : o.length ≤ (o.map (Value.int .i64)).length := by simp
        have v2 : [n2].contains y = false := by simp; omega
        have v3 : o.length + 1 ≤ bigN := by unfold bigN; omega
        have v5 : ∀ q, hset H2 n2 q y = _ := fun q => (hset_ne _ _ _ (by omega)).trans hy
        have v6 : (o.map (Value.int .i64)).take o.length = o.map (Value.int .i64) := List.take_of_length_le (by simp)
        simp (config := { maxSteps := 1000000 }) only [SS, forall_const, wx, tguard, acallee, top, tval, fput, tor, vsh, vbin, vun, tload, tload2, tload3, tidx, tidx2, tidx3, tlen2, tlen3, tbs, tbs2, afill, Go.AM.splice, one, tap, tap2, tap3, tap4, tsrc, tsrc2, Int.reduceEq, Int.reduceNeg, Nat.reduceGT, Nat.reduceLT, Nat.reduceLeDiff, Nat.reduceEqDiff, ↓reduceIte, reduceCtorEq, Int.reduceToNat, Int.reduceLE, Int.reduceLT, Nat.reduceAdd, Nat.reduceMul, h0, ff_32]
        repeat (first | apply WK.seq | apply WK.block | apply WK.skipSeq | apply WK.skipBlock | apply WK.retSeq | apply WK.retBlock | apply WK.exitSeq | apply WK.exitHere | refine WK.exitOn rfl ?_ | ((first | (refine WK.rgn ?_ ?_; kernel_rfl) | refine AtCall.now ?_); simp (config := { maxSteps := 1000000 }) only [SS, forall_const, wx, tguard, acallee, top, tval, fput, tor, vsh, vbin, vun, tload, tload2, tload3, tidx, tidx2, tidx3, tlen2, tlen3, tbs, tbs2, afill, Go.AM.splice, one, tap, tap2, tap3, tap4, tsrc, tsrc2, Int.reduceEq, Int.reduceNeg, Nat.reduceGT, Nat.reduceLT, Nat.reduceLeDiff, Nat.reduceEqDiff, ↓reduceIte, reduceCtorEq, Int.reduceToNat, Int.reduceLE, Int.reduceLT, Nat.reduceAdd, Nat.reduceMul, e, f9, hjw, hn, v1, v2, v3, v5, v6, List.drop_zero, ff_32]) | (refine WK.condT ?_ ?_; focus (simp only [ev_tmp, ev_const, fset_apply, Nat.reduceEqDiff, ↓reduceIte, decide_true, decide_false, e, f9, hjw, hn, v1, v2, v3, v5, v6, List.drop_zero, ff_32]; done)) | (refine WK.condF ?_ ?_; focus (simp only [ev_tmp, ev_const, fset_apply, Nat.reduceEqDiff, ↓reduceIte, decide_true, decide_false, e, f9, hjw, hn, v1, v2, v3, v5, v6, List.drop_zero, ff_32]; done)))
        refine ih (form.length - (j + 1)) (by omega) _ ⟨j + 1, o ++ [-form[j] - 1], ((kp.trans (Kp.new n2 H2 (.cells [.int .i64 (-form[j] - 1)] 3 true))).set (x := y) .dead hyn (by omega)).trans (Kp.new (n2 + 1) _ (.cells (o.map (Value.int .i64) ++ [.int .i64 (-form[j] - 1)]) 3 true)), .inr ⟨n2 + 1, ?_, ?_, by have := kp.le; omega⟩, f7, f8, ?_, hjl, hneg', hoe', rfl⟩
        · simp only [packed, fset_apply, Nat.reduceEqDiff, ↓reduceIte, List.getD_cons_zero, List.getD_cons_succ, ff_32]
          simp
        · refine (hset_at _ _ _).trans ?_
          rw [List.map_append]; rfl
        · simp only [packed, fset_apply, Nat.reduceEqDiff, ↓reduceIte, List.getD_cons_zero, List.getD_cons_succ, f9, hjw, ff_32]
  · repeat (first | apply WK.seq | apply WK.block | apply WK.skipSeq | apply WK.skipBlock | apply WK.retSeq | apply WK.retBlock | apply WK.exitSeq | apply WK.exitHere | refine WK.exitOn rfl ?_ | ((first | (refine WK.rgn ?_ ?_; kernel_rfl) | refine AtCall.now ?_); simp (config := { maxSteps := 1000000 }) only [SS, forall_const, wx, tguard, acallee, top, tval, fput, tor, vsh, vbin, vun, tload, tload2, tload3, tidx, tidx2, tidx3, tlen2, tlen3, tbs, tbs2, afill, Go.AM.splice, one, tap, tap2, tap3, tap4, tsrc, tsrc2, Int.reduceEq, Int.reduceNeg, Nat.reduceGT, Nat.reduceLT, Nat.reduceLeDiff, Nat.reduceEqDiff, ↓reduceIte, reduceCtorEq, Int.reduceToNat, Int.reduceLE, Int.reduceLT, Nat.reduceAdd, Nat.reduceMul, f8, f9, hjl, ff_32]) | (refine WK.condT ?_ ?_; focus (simp only [ev_tmp, ev_const, fset_apply, Nat.reduceEqDiff, ↓reduceIte, decide_true, decide_false, f8, f9, hjl, ff_32]; done)) | (refine WK.condF ?_ ?_; focus (simp only [ev_tmp, ev_const, fset_apply, Nat.reduceEqDiff, ↓reduceIte, decide_true, decide_false, f8, f9, hjl, ff_32]; done)))
    (first | refine WK.retNil ⟨Or.inr rfl, _, rfl, ?_, ?_⟩ | refine WK.skipNil ⟨Or.inl rfl, _, rfl, ?_, ?_⟩)
    · exact kp.keep
    · simp only [packed, fset_apply, Nat.reduceEqDiff, ↓reduceIte, List.getD_cons_zero, List.getD_cons_succ, ff_32]
      rw [List.take_of_length_le (by omega)] at hneg hoe
      obtain ⟨e1, e2⟩ := tw_all hneg
      obtain ⟨p', e3, h3⟩ := hrs _ rfl
      rw [e3]
      unfold leadV leadP
      rw [e1, e2, if_pos rfl, ← hoe]
      exact ⟨p', rfl, h3⟩
def yieldS (g : Gram) (form rules : List Int) : List Int × Nat :=
  if (replayL g form rules).2.2 = 0 then (if 0 ≤ leadP (replayL g form rules).1 then ([], 13) else (leadV (replayL g form rules).1, 0)) else ([], (replayL g form rules).2.2)
theorem stepS_ge {g : Gram} (ok : RightOK g) {form : List Int} (hf : ∀ s ∈ form, -9223372036854775808 ≤ s) (r : Int) : ∀ s ∈ (stepS g form r).1, -9223372036854775808 ≤ s := by
  by_cases h : (stepS g form r).2 = 0
  · obtain ⟨i, hi, t, rest, _, e1, e2, _⟩ := stepS_ok (g := g) (form := form) (r := r) (form' := (stepS g form r).1) (by rw [← h])
    intro s hs
    rw [e2] at hs
    have ht := ok.terms
    rcases List.mem_append.1 hs with hs | hs
    · rcases List.mem_append.1 hs with hs | hs
      · exact hf s (by rw [e1]; simp [hs])
      · have := ((ok.rule i hi).sym s hs).2
        omega
    · exact hf s (by rw [e1]; simp [hs])
  · have := stepS_err h
    rw [this]; intro s hs; cases hs
theorem replayS_ge {g : Gram} (ok : RightOK g) : ∀ (rules form : List Int) (k : Nat), (∀ s ∈ form, -9223372036854775808 ≤ s) → (∀ s ∈ (replayS g form rules k).1, -9223372036854775808 ≤ s) ∧ (replayS g form rules k).1.length ≤ form.length + 24 * rules.length := by
  intro rules
  induction rules with
  | nil => intro form k h; exact ⟨h, by simp [replayS]⟩
  | cons r rules ih =>
    intro form k h
    simp only [replayS]
    split
    · obtain ⟨h1, h2⟩ := ih (stepS g form r).1 (k + 1) (stepS_ge ok h r)
      refine ⟨h1, ?_⟩
      have := stepS_len ok form r
      rw [List.length_cons]; omega
    · exact ⟨fun s hs => (by cases hs), by simp⟩
theorem replayL_ge {g : Gram} (ok : RightOK g) (form rules : List Int) (h : ∀ s ∈ form, -9223372036854775808 ≤ s) : (∀ s ∈ (replayL g form rules).1, -9223372036854775808 ≤ s) ∧ (replayL g form rules).1.length ≤ form.length + 24 * rules.length := by
  unfold replayL
  split
  · exact ⟨fun s hs => (by cases hs), by simp⟩
  · exact replayS_ge ok _ _ _ h
theorem yield_gives {v : Value} {g : Gram} {p q : Option Addr} {form rules : List Int} {n : Nat} {H : Heap} (hw : WF n H) (hg : RG H v g) (wg : WG g) (ok : RightOK g) (hp : RA (Value.int .i64) H p form) (hq : RA (Value.int .i64) H q rules) (hl : form.length + 24 * rules.length + 24 ≤ 2147483648) (hf : ∀ s ∈ form, -9223372036854775808 ≤ s) :
    Gives Try.prog 12 [v, .slice p form.length form.length, .slice q rules.length rules.length] n H fun v _ H' => ∃ p', v = .tuple #[.slice p' (yieldS g form rules).1.length (yieldS g form rules).1.length, .int .i64 ((yieldS g form rules).2 : Nat)] ∧ RS (Value.int .i64) H' p' (yieldS g form rules).1 := by
  have hg0 := hg
  obtain ⟨pt, pv, pr, rfl, ht, hv, hr⟩ := hg
  refine Gives.of orders ok12 (Nat.le_of_ble_eq_true rfl) ?_
  have hk := Kp.new n H (.cells (gcells pt pv pr g) 25 true)
  have hb := hset_at H n (.cells (gcells pt pv pr g) 25 true)
  repeat (first | apply WK.seq | apply WK.block | apply WK.skipSeq | apply WK.skipBlock | apply WK.retSeq | apply WK.retBlock | apply WK.exitSeq | apply WK.exitHere | refine WK.exitOn rfl ?_)
  (refine WK.rgn ?_ ?_; kernel_rfl; simp (config := { maxSteps := 1000000 }) only [SS, forall_const, wx, tguard, acallee, top, tval, fput, tor, vsh, vbin, tload, tload2, tload3, textr, tbox, one, Int.reduceEq, Int.reduceNeg, Nat.reduceGT, Nat.reduceLT, Nat.reduceLeDiff, Nat.reduceEqDiff, ↓reduceIte, reduceCtorEq, Int.reduceToNat, Int.reduceLE, Int.reduceLT, Nat.reduceAdd, Nat.reduceMul, box_cells, box_one, ff_12])
  generalize hset H n (.cells (gcells pt pv pr g) 25 true) = H1 at *
  have hw1 := hk.wf hw
  have hge := replayL_ge ok form rules hf
  repeat (first | apply WK.seq | apply WK.block | apply WK.skipSeq | apply WK.skipBlock | apply WK.retSeq | apply WK.retBlock | apply WK.exitSeq | apply WK.exitHere | refine WK.exitOn rfl ?_)
  (refine WK.rgn ?_ ?_; kernel_rfl; simp (config := { maxSteps := 1000000 }) only [SS, forall_const, wx, tguard, acallee, top, tval, fput, tor, vsh, vbin, tload, tload2, tload3, textr, tbox, one, Int.reduceEq, Int.reduceNeg, Nat.reduceGT, Nat.reduceLT, Nat.reduceLeDiff, Nat.reduceEqDiff, ↓reduceIte, reduceCtorEq, Int.reduceToNat, Int.reduceLE, Int.reduceLT, Nat.reduceAdd, Nat.reduceMul, hb, gc_len, gc_all, ff_12])
  refine AtCall.by (replay_gives hw1 (hg0.mono hw hk) wg ok (hp.mono hw hk) (hq.mono hw hk) hl) ?_
  rintro v n2 H2 k2 ⟨p2, rfl, hp2⟩
  have kk := hk.trans k2
  unfold yieldS
  generalize replayL g form rules = R at *
  obtain ⟨out, w, e⟩ := R
  simp only at hp2 hge ⊢
  by_cases he : e = 0
  · subst he
    have h00 : (((0 : Nat) : Int) = 0) = True := by simp
    simp (config := { maxSteps := 1000000 }) only [SS, forall_const, wx, tguard, acallee, top, tval, fput, tor, vsh, vbin, tload, tload2, tload3, textr, tbox, one, Int.reduceEq, Int.reduceNeg, Nat.reduceGT, Nat.reduceLT, Nat.reduceLeDiff, Nat.reduceEqDiff, ↓reduceIte, reduceCtorEq, Int.reduceToNat, Int.reduceLE, Int.reduceLT, Nat.reduceAdd, Nat.reduceMul, ff_12]
    repeat (first | apply WK.seq | apply WK.block | apply WK.skipSeq | apply WK.skipBlock | apply WK.retSeq | apply WK.retBlock | apply WK.exitSeq | apply WK.exitHere | refine WK.exitOn rfl ?_ | ((first | (refine WK.rgn ?_ ?_; kernel_rfl) | refine AtCall.now ?_); simp (config := { maxSteps := 1000000 }) only [SS, forall_const, wx, tguard, acallee, top, tval, fput, tor, vsh, vbin, tload, tload2, tload3, textr, tbox, one, Int.reduceEq, Int.reduceNeg, Nat.reduceGT, Nat.reduceLT, Nat.reduceLeDiff, Nat.reduceEqDiff, ↓reduceIte, reduceCtorEq, Int.reduceToNat, Int.reduceLE, Int.reduceLT, Nat.reduceAdd, Nat.reduceMul, h00, ff_12]) | (refine WK.condT ?_ ?_; focus (simp only [ev_tmp, ev_const, fset_apply, Nat.reduceEqDiff, ↓reduceIte, decide_true, decide_false, h00, ff_12]; done)) | (refine WK.condF ?_ ?_; focus (simp only [ev_tmp, ev_const, fset_apply, Nat.reduceEqDiff, ↓reduceIte, decide_true, decide_false, h00, ff_12]; done)))
    refine AtCall.by (lead_gives (kk.wf hw) hp2.ra (by omega) hge.1) ?_
    rintro v n3 H3 k3 ⟨p3, rfl, hp3⟩
    by_cases hlp : 0 ≤ leadP out
    · simp (config := { maxSteps := 1000000 }) only [SS, forall_const, wx, tguard, acallee, top, tval, fput, tor, vsh, vbin, tload, tload2, tload3, textr, tbox, one, Int.reduceEq, Int.reduceNeg, Nat.reduceGT, Nat.reduceLT, Nat.reduceLeDiff, Nat.reduceEqDiff, ↓reduceIte, reduceCtorEq, Int.reduceToNat, Int.reduceLE, Int.reduceLT, Nat.reduceAdd, Nat.reduceMul, ff_12]
      repeat (first | apply WK.seq | apply WK.block | apply WK.skipSeq | apply WK.skipBlock | apply WK.retSeq | apply WK.retBlock | apply WK.exitSeq | apply WK.exitHere | refine WK.exitOn rfl ?_ | ((first | (refine WK.rgn ?_ ?_; kernel_rfl) | refine AtCall.now ?_); simp (config := { maxSteps := 1000000 }) only [SS, forall_const, wx, tguard, acallee, top, tval, fput, tor, vsh, vbin, tload, tload2, tload3, textr, tbox, one, Int.reduceEq, Int.reduceNeg, Nat.reduceGT, Nat.reduceLT, Nat.reduceLeDiff, Nat.reduceEqDiff, ↓reduceIte, reduceCtorEq, Int.reduceToNat, Int.reduceLE, Int.reduceLT, Nat.reduceAdd, Nat.reduceMul, hlp, ff_12]) | (refine WK.condT ?_ ?_; focus (simp only [ev_tmp, ev_const, fset_apply, Nat.reduceEqDiff, ↓reduceIte, decide_true, decide_false, hlp, ff_12]; done)) | (refine WK.condF ?_ ?_; focus (simp only [ev_tmp, ev_const, fset_apply, Nat.reduceEqDiff, ↓reduceIte, decide_true, decide_false, hlp, ff_12]; done)))
      (first | refine WK.retNil ⟨Or.inr rfl, _, rfl, ?_, ?_⟩ | refine WK.skipNil ⟨Or.inl rfl, _, rfl, ?_, ?_⟩)
      · exact (kk.trans k3).keep
      · simp only [packed, fset_apply, Nat.reduceEqDiff, ↓reduceIte, List.getD_cons_zero, List.getD_cons_succ, ff_12]
        exact ⟨none, rfl, .inl ⟨rfl, rfl⟩⟩
    · simp (config := { maxSteps := 1000000 }) only [SS, forall_const, wx, tguard, acallee, top, tval, fput, tor, vsh, vbin, tload, tload2, tload3, textr, tbox, one, Int.reduceEq, Int.reduceNeg, Nat.reduceGT, Nat.reduceLT, Nat.reduceLeDiff, Nat.reduceEqDiff, ↓reduceIte, reduceCtorEq, Int.reduceToNat, Int.reduceLE, Int.reduceLT, Nat.reduceAdd, Nat.reduceMul, ff_12]
      repeat (first | apply WK.seq | apply WK.block | apply WK.skipSeq | apply WK.skipBlock | apply WK.retSeq | apply WK.retBlock | apply WK.exitSeq | apply WK.exitHere | refine WK.exitOn rfl ?_ | ((first | (refine WK.rgn ?_ ?_; kernel_rfl) | refine AtCall.now ?_); simp (config := { maxSteps := 1000000 }) only [SS, forall_const, wx, tguard, acallee, top, tval, fput, tor, vsh, vbin, tload, tload2, tload3, textr, tbox, one, Int.reduceEq, Int.reduceNeg, Nat.reduceGT, Nat.reduceLT, Nat.reduceLeDiff, Nat.reduceEqDiff, ↓reduceIte, reduceCtorEq, Int.reduceToNat, Int.reduceLE, Int.reduceLT, Nat.reduceAdd, Nat.reduceMul, hlp, ff_12]) | (refine WK.condT ?_ ?_; focus (simp only [ev_tmp, ev_const, fset_apply, Nat.reduceEqDiff, ↓reduceIte, decide_true, decide_false, hlp, ff_12]; done)) | (refine WK.condF ?_ ?_; focus (simp only [ev_tmp, ev_const, fset_apply, Nat.reduceEqDiff, ↓reduceIte, decide_true, decide_false, hlp, ff_12]; done)))
      (first | refine WK.retNil ⟨Or.inr rfl, _, rfl, ?_, ?_⟩ | refine WK.skipNil ⟨Or.inl rfl, _, rfl, ?_, ?_⟩)
      · exact (kk.trans k3).keep
      · simp only [packed, fset_apply, Nat.reduceEqDiff, ↓reduceIte, List.getD_cons_zero, List.getD_cons_succ, ff_12]
        exact ⟨p3, rfl, hp3⟩
  · have h00 : ((e : Int) = 0) = False := by simp; exact he
    simp (config := { maxSteps := 1000000 }) only [SS, forall_const, wx, tguard, acallee, top, tval, fput, tor, vsh, vbin, tload, tload2, tload3, textr, tbox, one, Int.reduceEq, Int.reduceNeg, Nat.reduceGT, Nat.reduceLT, Nat.reduceLeDiff, Nat.reduceEqDiff, ↓reduceIte, reduceCtorEq, Int.reduceToNat, Int.reduceLE, Int.reduceLT, Nat.reduceAdd, Nat.reduceMul, ff_12]
    repeat (first | apply WK.seq | apply WK.block | apply WK.skipSeq | apply WK.skipBlock | apply WK.retSeq | apply WK.retBlock | apply WK.exitSeq | apply WK.exitHere | refine WK.exitOn rfl ?_ | ((first | (refine WK.rgn ?_ ?_; kernel_rfl) | refine AtCall.now ?_); simp (config := { maxSteps := 1000000 }) only [SS, forall_const, wx, tguard, acallee, top, tval, fput, tor, vsh, vbin, tload, tload2, tload3, textr, tbox, one, Int.reduceEq, Int.reduceNeg, Nat.reduceGT, Nat.reduceLT, Nat.reduceLeDiff, Nat.reduceEqDiff, ↓reduceIte, reduceCtorEq, Int.reduceToNat, Int.reduceLE, Int.reduceLT, Nat.reduceAdd, Nat.reduceMul, h00, ff_12]) | (refine WK.condT ?_ ?_; focus (simp only [ev_tmp, ev_const, fset_apply, Nat.reduceEqDiff, ↓reduceIte, decide_true, decide_false, h00, ff_12]; done)) | (refine WK.condF ?_ ?_; focus (simp only [ev_tmp, ev_const, fset_apply, Nat.reduceEqDiff, ↓reduceIte, decide_true, decide_false, h00, ff_12]; done)))
    (first | refine WK.retNil ⟨Or.inr rfl, _, rfl, ?_, ?_⟩ | refine WK.skipNil ⟨Or.inl rfl, _, rfl, ?_, ?_⟩)
    · exact kk.keep
    · simp only [packed, fset_apply, Nat.reduceEqDiff, ↓reduceIte, List.getD_cons_zero, List.getD_cons_succ, ff_12]
      rw [if_neg he]
      exact ⟨none, rfl, .inl ⟨rfl, rfl⟩⟩
end Go.Proofs.Ytemkglelfeidhaa
