/- A part of a proof. Its conditions: none. -/
import Derived.Test.YtpdlmpbhohinpaaAmCUseYield
import Derived.Test.YtpdlmpbhohinpaaAmCChDer
set_option linter.all false
namespace Go.Proofs.Ytpdlmpbhohinpaa
open Go.AM Go.RowKit
set_option maxRecDepth 100000
theorem acc_short {g : Gram} (ok : RightOK g) {c : Nat → Nat} {b : Nat → Int} (hc : CostOK g c b) {u : List Int} (h : (runS g u).isSome = true) : accR g u = decide (shortR g c u = 0) := by
  rw [Bool.eq_iff_iff, decide_eq_true_eq, accR_iff ok h]
  constructor
  · intro hy
    have := shortR_le ok hc (u := u) (v := []) (by rw [List.append_nil]; exact hy) (by unfold farN; simp)
    simpa using this
  · intro h0
    obtain ⟨v, hv, hy⟩ := shortR_word ok hc h (by rw [h0]; unfold farN; omega)
    rw [h0] at hv
    have : v = [] := List.length_eq_zero_iff.1 hv
    subst this
    rwa [List.append_nil] at hy
theorem same_refl (l : List Int) : same l l = true := by unfold same; rw [same_self]; rfl
theorem WO.src2 {n n2 : Nat} {H H' : Heap} {p : Option Addr} {l : List Int} (h : WO n H (.slice p l.length l.length) l) (hw : WF n2 H) (hk : ∀ q, q < n2 → H' q = H q) : ∃ rd : List Nat, tsrc H' 1 (.slice p l.length l.length) = some (l.map (.int .i64), rd, l.length) ∧ ∀ q ∈ rd, q < n2 := by
  obtain ⟨q, e, ⟨rfl, rfl⟩ | ⟨z, rfl, _, hz⟩⟩ := h
  · cases e; exact ⟨[], rfl, fun q h => by cases h⟩
  · cases e
    have hzn : z < n2 := Classical.byContradiction fun hc => by rw [hw z (by omega)] at hz; cases hz
    refine ⟨[z], ?_, fun q hq => ?_⟩
    · simp [tsrc, tsrc2, hk z hzn, hz]
      exact List.take_of_length_le (by simp)
    · have : q = z := by simpa using hq
      subst this
      exact hzn
set_option maxHeartbeats 32000000 in
theorem goes_gives {v : Value} {g : Gram} {a : Option Addr} {w : List Int} {t : Int} {n : Nat} {H : Heap} (hw : WF n H) (hg : RG H v g) (wg : WG g) (ha : RS (Value.int .i64) H a w) (hro : AllRO H) (hwl : w.length ≤ maxL) (hi : ∀ t ∈ w, inI t) (htin : inI t) :
    Gives Try.prog 4 [v, .slice a w.length w.length, .int .i64 t] n H fun v _ _ => v = .bool true := by
  have hg0 := hg
  obtain ⟨pt, pv, pr, rfl, ht, hv, hr⟩ := hg
  have hro0 := rro_of hr hro
  refine Gives.of orders ok4 (Nat.le_of_ble_eq_true rfl) ?_
  have hk := Kp.new n H (.cells (gcells pt pv pr g) 25 true)
  have hb := hset_at H n (.cells (gcells pt pv pr g) 25 true)
  repeat (first | apply qqa | apply qqb | apply qqc | apply qqd | apply qqe | apply qqf | apply qqg | apply qqh | refine qqi rfl ?_)
  (refine WK.rgn ?_ ?_; kernel_rfl; simp (config := { maxSteps := 1000000 }) only [SS, qg0, qgb, qgl, qgi, qgz, qge, forall_const, tor, vun, tlen2, tpick, textr, tbox, one, Go.AM.splice, Int.reduceEq, Int.reduceNeg, Nat.reduceGT, Nat.reduceLT, Nat.reduceLeDiff, Nat.reduceEqDiff, ↓reduceIte, reduceCtorEq, Int.reduceToNat, Int.reduceLE, Int.reduceLT, Nat.reduceAdd, Nat.reduceMul, box_cells, box_one, ff_4])
  generalize hset H n (.cells (gcells pt pv pr g) 25 true) = H1 at *
  repeat (first | apply qqa | apply qqb | apply qqc | apply qqd | apply qqe | apply qqf | apply qqg | apply qqh | refine qqi rfl ?_ | ((first | (refine WK.rgn ?_ ?_; kernel_rfl) | refine AtCall.now ?_); simp (config := { maxSteps := 1000000 }) only [SS, qg0, qgb, qgl, qgi, qgz, qge, forall_const, tor, vun, tlen2, tpick, textr, tbox, one, Go.AM.splice, Int.reduceEq, Int.reduceNeg, Nat.reduceGT, Nat.reduceLT, Nat.reduceLeDiff, Nat.reduceEqDiff, ↓reduceIte, reduceCtorEq, Int.reduceToNat, Int.reduceLE, Int.reduceLT, Nat.reduceAdd, Nat.reduceMul, ff_4]) | refine qqj rfl ?_ | refine qqk rfl ?_)
  refine AtCall.by (alive_gives _ _) ?_
  rintro v n' H' hk' ⟨rfl, rfl, rfl⟩
  simp (config := { maxSteps := 1000000 }) only [SS, qg0, qgb, qgl, qgi, qgz, qge, forall_const, tor, vun, tlen2, tpick, textr, tbox, one, Go.AM.splice, Int.reduceEq, Int.reduceNeg, Nat.reduceGT, Nat.reduceLT, Nat.reduceLeDiff, Nat.reduceEqDiff, ↓reduceIte, reduceCtorEq, Int.reduceToNat, Int.reduceLE, Int.reduceLT, Nat.reduceAdd, Nat.reduceMul, ff_4]
  repeat (first | apply qqa | apply qqb | apply qqc | apply qqd | apply qqe | apply qqf | apply qqg | apply qqh | refine qqi rfl ?_)
  first | refine qqj rfl ?_ | refine qqk rfl ?_
  repeat (first | apply qqa | apply qqb | apply qqc | apply qqd | apply qqe | apply qqf | apply qqg | apply qqh | refine qqi rfl ?_)
  (refine WK.rgn ?_ ?_; kernel_rfl; simp (config := { maxSteps := 1000000 }) only [SS, qg0, qgb, qgl, qgi, qgz, qge, forall_const, tor, vun, tlen2, tpick, textr, tbox, one, Go.AM.splice, Int.reduceEq, Int.reduceNeg, Nat.reduceGT, Nat.reduceLT, Nat.reduceLeDiff, Nat.reduceEqDiff, ↓reduceIte, reduceCtorEq, Int.reduceToNat, Int.reduceLE, Int.reduceLT, Nat.reduceAdd, Nat.reduceMul, hb, gc_len, gc_all, ff_4])
  refine AtCall.by (few17_gives (hk.wf hw) (hg0.mono hw hk) wg) ?_
  rintro v n2 H2 k2 ⟨tt, rfl, hok⟩
  have kk2 := hk.trans k2
  have hb2 := (k2.keep n (by omega)).trans hb
  cases tt with
  | false =>
    simp (config := { maxSteps := 1000000 }) only [SS, qg0, qgb, qgl, qgi, qgz, qge, forall_const, tor, vun, tlen2, tpick, textr, tbox, one, Go.AM.splice, Int.reduceEq, Int.reduceNeg, Nat.reduceGT, Nat.reduceLT, Nat.reduceLeDiff, Nat.reduceEqDiff, ↓reduceIte, reduceCtorEq, Int.reduceToNat, Int.reduceLE, Int.reduceLT, Nat.reduceAdd, Nat.reduceMul, ff_4]
    repeat (first | apply qqa | apply qqb | apply qqc | apply qqd | apply qqe | apply qqf | apply qqg | apply qqh | refine qqi rfl ?_ | ((first | (refine WK.rgn ?_ ?_; kernel_rfl) | refine AtCall.now ?_); simp (config := { maxSteps := 1000000 }) only [SS, qg0, qgb, qgl, qgi, qgz, qge, forall_const, tor, vun, tlen2, tpick, textr, tbox, one, Go.AM.splice, Int.reduceEq, Int.reduceNeg, Nat.reduceGT, Nat.reduceLT, Nat.reduceLeDiff, Nat.reduceEqDiff, ↓reduceIte, reduceCtorEq, Int.reduceToNat, Int.reduceLE, Int.reduceLT, Nat.reduceAdd, Nat.reduceMul, ff_4]) | refine qqj rfl ?_ | refine qqk rfl ?_)
    (first | refine WK.retNil ⟨Or.inr rfl, _, rfl, ?_, ?_⟩ | refine WK.skipNil ⟨Or.inl rfl, _, rfl, ?_, ?_⟩)
    · exact kk2.keep
    · simp only [packed, fset_apply, Nat.reduceEqDiff, ↓reduceIte, List.getD_cons_zero, List.getD_cons_succ, ff_4]
  | true =>
  obtain ⟨hf, ok⟩ := hok rfl
  by_cases h12 : (12 : Int) < w.length
  · simp (config := { maxSteps := 1000000 }) only [SS, qg0, qgb, qgl, qgi, qgz, qge, forall_const, tor, vun, tlen2, tpick, textr, tbox, one, Go.AM.splice, Int.reduceEq, Int.reduceNeg, Nat.reduceGT, Nat.reduceLT, Nat.reduceLeDiff, Nat.reduceEqDiff, ↓reduceIte, reduceCtorEq, Int.reduceToNat, Int.reduceLE, Int.reduceLT, Nat.reduceAdd, Nat.reduceMul, h12, ff_4]
    repeat (first | apply qqa | apply qqb | apply qqc | apply qqd | apply qqe | apply qqf | apply qqg | apply qqh | refine qqi rfl ?_ | ((first | (refine WK.rgn ?_ ?_; kernel_rfl) | refine AtCall.now ?_); simp (config := { maxSteps := 1000000 }) only [SS, qg0, qgb, qgl, qgi, qgz, qge, forall_const, tor, vun, tlen2, tpick, textr, tbox, one, Go.AM.splice, Int.reduceEq, Int.reduceNeg, Nat.reduceGT, Nat.reduceLT, Nat.reduceLeDiff, Nat.reduceEqDiff, ↓reduceIte, reduceCtorEq, Int.reduceToNat, Int.reduceLE, Int.reduceLT, Nat.reduceAdd, Nat.reduceMul, ff_4]) | refine qqj rfl ?_ | refine qqk rfl ?_)
    (first | refine WK.retNil ⟨Or.inr rfl, _, rfl, ?_, ?_⟩ | refine WK.skipNil ⟨Or.inl rfl, _, rfl, ?_, ?_⟩)
    · exact kk2.keep
    · simp only [packed, fset_apply, Nat.reduceEqDiff, ↓reduceIte, List.getD_cons_zero, List.getD_cons_succ, ff_4]
  have hw2 := kk2.wf hw
  have hnle := hk.le
  have hnle2 := k2.le
  have hro2 : RRO H2 pr g.rules := hro0.sub (fun x hx => kk2.keep x (Classical.byContradiction fun hc => hx (hw x (by omega))))
  simp (config := { maxSteps := 1000000 }) only [SS, qg0, qgb, qgl, qgi, qgz, qge, forall_const, tor, vun, tlen2, tpick, textr, tbox, one, Go.AM.splice, Int.reduceEq, Int.reduceNeg, Nat.reduceGT, Nat.reduceLT, Nat.reduceLeDiff, Nat.reduceEqDiff, ↓reduceIte, reduceCtorEq, Int.reduceToNat, Int.reduceLE, Int.reduceLT, Nat.reduceAdd, Nat.reduceMul, h12, ff_4]
  repeat (first | apply qqa | apply qqb | apply qqc | apply qqd | apply qqe | apply qqf | apply qqg | apply qqh | refine qqi rfl ?_ | ((first | (refine WK.rgn ?_ ?_; kernel_rfl) | refine AtCall.now ?_); simp (config := { maxSteps := 1000000 }) only [SS, qg0, qgb, qgl, qgi, qgz, qge, forall_const, tor, vun, tlen2, tpick, textr, tbox, one, Go.AM.splice, Int.reduceEq, Int.reduceNeg, Nat.reduceGT, Nat.reduceLT, Nat.reduceLeDiff, Nat.reduceEqDiff, ↓reduceIte, reduceCtorEq, Int.reduceToNat, Int.reduceLE, Int.reduceLT, Nat.reduceAdd, Nat.reduceMul, hb2, gc_len, gc_all, ff_4]) | refine qqj rfl ?_ | refine qqk rfl ?_)
  refine AtCall.by (new_cw (H0 := H) hw2 (hg0.mono hw kk2) wg ok hf hro2) ?_
  rintro v n3 H3 k3 ⟨S, N, o, pt1, pv1, pr1, pg1, pe1, pc1, co, rfl, K, hno, cw⟩
  have hn3 := k3.le
  have hNo : N > o := K.oN
  obtain ⟨b, hcost⟩ := K.cost
  have hfar : farN = 1073741824 := rfl
  simp (config := { maxSteps := 1000000 }) only [SS, qg0, qgb, qgl, qgi, qgz, qge, forall_const, tor, vun, tlen2, tpick, textr, tbox, one, Go.AM.splice, Int.reduceEq, Int.reduceNeg, Nat.reduceGT, Nat.reduceLT, Nat.reduceLeDiff, Nat.reduceEqDiff, ↓reduceIte, reduceCtorEq, Int.reduceToNat, Int.reduceLE, Int.reduceLT, Nat.reduceAdd, Nat.reduceMul, ff_4]
  repeat (first | apply qqa | apply qqb | apply qqc | apply qqd | apply qqe | apply qqf | apply qqg | apply qqh | refine qqi rfl ?_ | ((first | (refine WK.rgn ?_ ?_; kernel_rfl) | refine AtCall.now ?_); simp (config := { maxSteps := 1000000 }) only [SS, qg0, qgb, qgl, qgi, qgz, qge, forall_const, tor, vun, tlen2, tpick, textr, tbox, one, Go.AM.splice, Int.reduceEq, Int.reduceNeg, Nat.reduceGT, Nat.reduceLT, Nat.reduceLeDiff, Nat.reduceEqDiff, ↓reduceIte, reduceCtorEq, Int.reduceToNat, Int.reduceLE, Int.reduceLT, Nat.reduceAdd, Nat.reduceMul, ff_4]) | refine qqj rfl ?_ | refine qqk rfl ?_)
  refine WK.loop (fun k s => ∃ (i : Nat) (u : List Int), Kx (fun z => z = o ∨ N ≤ z) n3 H3 s.n s.H ∧ CW (fun z => z < n2) s.n s.H S N o pt1 pv1 pr1 pg1 pe1 pc1 g co u ∧ s.f 2 = .int .i64 t ∧ s.f 3 = .pointer (some ⟨n, 0, none⟩) ∧ s.f 7 = .pointer (some ⟨o, 0, none⟩) ∧ s.f 28 = .slice a w.length w.length ∧ s.f 29 = .int .i64 (w.length : Nat) ∧ s.f 30 = .int .i64 (i : Nat) ∧ i ≤ w.length ∧ u.length ≤ i ∧ (∀ t ∈ u, inI t) ∧ k = w.length - i) w.length ?_ ?_
  · exact ⟨0, [], .refl _ _ _, cw, rfl, rfl, rfl, rfl, rfl, rfl, Nat.zero_le _, Nat.le_refl _, (fun t h => by cases h), rfl⟩
  rintro k ⟨f, n4, H4⟩ ⟨i, u, kx4, cw4, f2, f3, f7, f28, f29, f30, hil, hul, hui, rfl⟩ ih
  simp only at f2 f3 f7 f28 f29 f30 kx4 cw4 ih
  have hn4 := kx4.le
  have keep4 : ∀ x, x < n2 → H4 x = H2 x := fun x hx => (kx4.keep x (by omega) (by omega)).trans (k3.keep x hx)
  by_cases hlt : i < w.length
  · have ha4 : RS (Value.int .i64) H4 a w := ha.mono hw ⟨by omega, fun x hx => (keep4 x (by omega)).trans (kk2.keep x hx), fun _ => cw4.1⟩
    obtain ⟨zp, kp, dsp, tp, op, rfl, hzp, e3⟩ := ha4.ra.at hlt
    have hwi : IntKind.wrap .i64 ((i : Int) + 1) = ((i + 1 : Nat) : Int) := by rw [wrap_in (by omega) (by omega)]; rfl
    have hint := hi _ (List.getElem_mem hlt)
    generalize w[i] = x at *
    repeat (first | apply qqa | apply qqb | apply qqc | apply qqd | apply qqe | apply qqf | apply qqg | apply qqh | refine qqi rfl ?_ | ((first | (refine WK.rgn ?_ ?_; kernel_rfl) | refine AtCall.now ?_); simp (config := { maxSteps := 1000000 }) only [SS, qg0, qgb, qgl, qgi, qgz, qge, forall_const, tor, vun, tlen2, tpick, textr, tbox, one, Go.AM.splice, Int.reduceEq, Int.reduceNeg, Nat.reduceGT, Nat.reduceLT, Nat.reduceLeDiff, Nat.reduceEqDiff, ↓reduceIte, reduceCtorEq, Int.reduceToNat, Int.reduceLE, Int.reduceLT, Nat.reduceAdd, Nat.reduceMul, f2, f3, f7, f28, f29, f30, hlt, hzp, e3, ff_4]) | refine qqj rfl ?_ | refine qqk rfl ?_)
    refine AtCall.byX (push_cw (t := x) K cw4 (by omega) hint (fun z hz => by omega)) ?_
    rintro v n5 H5 kx5 ⟨rfl, zk5, cw5⟩
    simp (config := { maxSteps := 1000000 }) only [SS, qg0, qgb, qgl, qgi, qgz, qge, forall_const, tor, vun, tlen2, tpick, textr, tbox, one, Go.AM.splice, Int.reduceEq, Int.reduceNeg, Nat.reduceGT, Nat.reduceLT, Nat.reduceLeDiff, Nat.reduceEqDiff, ↓reduceIte, reduceCtorEq, Int.reduceToNat, Int.reduceLE, Int.reduceLT, Nat.reduceAdd, Nat.reduceMul, ff_4]
    repeat (first | apply qqa | apply qqb | apply qqc | apply qqd | apply qqe | apply qqf | apply qqg | apply qqh | refine qqi rfl ?_ | ((first | (refine WK.rgn ?_ ?_; kernel_rfl) | refine AtCall.now ?_); simp (config := { maxSteps := 1000000 }) only [SS, qg0, qgb, qgl, qgi, qgz, qge, forall_const, tor, vun, tlen2, tpick, textr, tbox, one, Go.AM.splice, Int.reduceEq, Int.reduceNeg, Nat.reduceGT, Nat.reduceLT, Nat.reduceLeDiff, Nat.reduceEqDiff, ↓reduceIte, reduceCtorEq, Int.reduceToNat, Int.reduceLE, Int.reduceLT, Nat.reduceAdd, Nat.reduceMul, f30, hwi, ff_4]) | refine qqj rfl ?_ | refine qqk rfl ?_)
    refine ih (w.length - (i + 1)) (by omega) _ ?_
    cases hp : (runS g (u ++ [x])).isSome with
    | false =>
      rw [hp] at cw5
      exact ⟨i + 1, u, kx4.trans (kx5.mono fun z _ h => h), by simpa using cw5, f2, f3, f7, f28, f29, rfl, hlt, by omega, hui, rfl⟩
    | true =>
      rw [hp, if_pos rfl] at cw5
      refine ⟨i + 1, u ++ [x], kx4.trans (kx5.mono fun z _ h => h), cw5, f2, f3, f7, f28, f29, rfl, hlt, by simp; omega, fun q hq => ?_, rfl⟩
      rcases List.mem_append.1 hq with h | h
      · exact hui q h
      · have : q = x := by simpa using h
        subst this; exact hint
  · have hu12 : u.length ≤ 12 := by omega
    have hsome := cw4.some
    have hw4 := cw4.1
    have hb4 := (keep4 n (by omega)).trans hb2
    have keepH : ∀ x, x < n → H4 x = H x := fun x hx => (keep4 x (by omega)).trans (kk2.keep x hx)
    clear ih
    repeat (first | apply qqa | apply qqb | apply qqc | apply qqd | apply qqe | apply qqf | apply qqg | apply qqh | refine qqi rfl ?_ | ((first | (refine WK.rgn ?_ ?_; kernel_rfl) | refine AtCall.now ?_); simp (config := { maxSteps := 1000000 }) only [SS, qg0, qgb, qgl, qgi, qgz, qge, forall_const, tor, vun, tlen2, tpick, textr, tbox, one, Go.AM.splice, Int.reduceEq, Int.reduceNeg, Nat.reduceGT, Nat.reduceLT, Nat.reduceLeDiff, Nat.reduceEqDiff, ↓reduceIte, reduceCtorEq, Int.reduceToNat, Int.reduceLE, Int.reduceLT, Nat.reduceAdd, Nat.reduceMul, f2, f3, f7, f28, f29, f30, hlt, ff_4]) | refine qqj rfl ?_ | refine qqk rfl ?_)
    refine AtCall.by (word_cw cw4 (by omega)) ?_
    rintro v10 n5 H5 k5 wo5
    have cw5 := cw4.kp k5
    have hn5 := k5.le
    simp (config := { maxSteps := 1000000 }) only [SS, qg0, qgb, qgl, qgi, qgz, qge, forall_const, tor, vun, tlen2, tpick, textr, tbox, one, Go.AM.splice, Int.reduceEq, Int.reduceNeg, Nat.reduceGT, Nat.reduceLT, Nat.reduceLeDiff, Nat.reduceEqDiff, ↓reduceIte, reduceCtorEq, Int.reduceToNat, Int.reduceLE, Int.reduceLT, Nat.reduceAdd, Nat.reduceMul, f7, ff_4]
    refine AtCall.by (next_cw K cw5 (by omega)) ?_
    rintro v11 n6 H6 k6 wn6
    have cw6 := cw5.kp k6
    have hn6 := k6.le
    have wo6 := wo5.kp cw5.1 k6
    simp (config := { maxSteps := 1000000 }) only [SS, qg0, qgb, qgl, qgi, qgz, qge, forall_const, tor, vun, tlen2, tpick, textr, tbox, one, Go.AM.splice, Int.reduceEq, Int.reduceNeg, Nat.reduceGT, Nat.reduceLT, Nat.reduceLeDiff, Nat.reduceEqDiff, ↓reduceIte, reduceCtorEq, Int.reduceToNat, Int.reduceLE, Int.reduceLT, Nat.reduceAdd, Nat.reduceMul, f7, ff_4]
    refine AtCall.by (short_cw K cw6 (by omega)) ?_
    rintro v n7 H7 k7 rfl
    have hn7 := k7.le
    have wo7 := wo6.kp cw6.1 k7
    have wn7 := wn6.kp cw6.1 k7
    have cw7 : CW (fun z => z < n2 ∨ VP v10 z ∨ VP v11 z) n7 H7 S N o pt1 pv1 pr1 pg1 pe1 pc1 g co u := cw4.kpz ((k5.trans k6).trans k7) fun q hq => by
      rcases hq with hq | hq | hq
      · exact .inl hq
      · exact .inr (wo5.vp hq)
      · have := wn6.vp hq; exact .inr (by omega)
    have hw7 := cw7.1
    have hb7 : H7 n = .cells (gcells pt pv pr g) 25 true := (k7.keep n (by omega)).trans ((k6.keep n (by omega)).trans ((k5.keep n (by omega)).trans hb4))
    have keep7 : ∀ x, x < n → H7 x = H x := fun x hx => (k7.keep x (by omega)).trans ((k6.keep x (by omega)).trans ((k5.keep x (by omega)).trans (keepH x hx)))
    have hacs := acc_short ok hcost hsome
    have hniff := nextR_iff (t := t) hsome
    obtain ⟨hnd, hnl⟩ := nextR_nodup ok hsome
    have hcn := cnt_nodup (t := t) hnd
    have htl := K.htl
    have hfin := finR_ok ok hcost (shortR g (cF co) u) u hsome rfl
    simp (config := { maxSteps := 1000000 }) only [SS, qg0, qgb, qgl, qgi, qgz, qge, forall_const, tor, vun, tlen2, tpick, textr, tbox, one, Go.AM.splice, Int.reduceEq, Int.reduceNeg, Nat.reduceGT, Nat.reduceLT, Nat.reduceLeDiff, Nat.reduceEqDiff, ↓reduceIte, reduceCtorEq, Int.reduceToNat, Int.reduceLE, Int.reduceLT, Nat.reduceAdd, Nat.reduceMul, ff_4]
    repeat (first | apply qqa | apply qqb | apply qqc | apply qqd | apply qqe | apply qqf | apply qqg | apply qqh | refine qqi rfl ?_)
    (refine WK.rgn ?_ ?_; kernel_rfl; simp (config := { maxSteps := 1000000 }) only [SS, qg0, qgb, qgl, qgi, qgz, qge, forall_const, tor, vun, tlen2, tpick, textr, tbox, one, Go.AM.splice, Int.reduceEq, Int.reduceNeg, Nat.reduceGT, Nat.reduceLT, Nat.reduceLeDiff, Nat.reduceEqDiff, ↓reduceIte, reduceCtorEq, Int.reduceToNat, Int.reduceLE, Int.reduceLT, Nat.reduceAdd, Nat.reduceMul, f2, f7, ff_4])
    refine AtCall.byX (push_cw (t := t) K cw7 (by omega) htin (fun z hz => by
      rcases hz with hz | hz | hz
      · omega
      · exact wo7.lt hw7 hz
      · exact wn7.lt hw7 hz)) ?_
    rintro v n8 H8 kx8 ⟨rfl, zk8, cw8⟩
    have hn8 := kx8.le
    have wo8 := wo7.zk zk8 fun q hq => .inr (.inl hq)
    have wn8 := wn7.zk zk8 fun q hq => .inr (.inr hq)
    generalize hnx : nextR g u = nx0 at *
    generalize hB : (runS g (u ++ [t])).isSome = B at *
    generalize hS : shortR g (cF co) u = s0 at *
    simp (config := { maxSteps := 1000000 }) only [SS, qg0, qgb, qgl, qgi, qgz, qge, forall_const, tor, vun, tlen2, tpick, textr, tbox, one, Go.AM.splice, Int.reduceEq, Int.reduceNeg, Nat.reduceGT, Nat.reduceLT, Nat.reduceLeDiff, Nat.reduceEqDiff, ↓reduceIte, reduceCtorEq, Int.reduceToNat, Int.reduceLE, Int.reduceLT, Nat.reduceAdd, Nat.reduceMul, ff_4]
    apply WK.skipSeq
    apply WK.seq
    obtain ⟨q10, rfl, hq10⟩ := wo8.rs
    obtain ⟨q11, rfl, hq11⟩ := wn8.rs
    have hc11 : (((cnt nx0 t : Nat) : Int) = 1) = (B = true) := by
      rw [hcn]
      cases B with
      | false => rw [if_neg (fun h => by have := hniff.1 h; cases this)]; simp
      | true => rw [if_pos (hniff.2 rfl)]; simp
    refine WK.cut (fun s => s.n = n8 ∧ s.H = H8 ∧ s.f 2 = .int .i64 t ∧ s.f 3 = .pointer (some ⟨n, 0, none⟩) ∧ s.f 7 = .pointer (some ⟨o, 0, none⟩) ∧ s.f 10 = .slice q10 u.length u.length ∧ s.f 11 = .slice q11 nx0.length nx0.length ∧ s.f 12 = .int .i64 (s0 : Nat) ∧ s.f 13 = .bool B) ?_ ?_
    · repeat (first | apply qqa | apply qqb | apply qqc | apply qqd | apply qqe | apply qqf | apply qqg | apply qqh | refine qqi rfl ?_)
      (refine WK.rgn ?_ ?_; kernel_rfl; simp (config := { maxSteps := 1000000 }) only [SS, qg0, qgb, qgl, qgi, qgz, qge, forall_const, tor, vun, tlen2, tpick, textr, tbox, one, Go.AM.splice, Int.reduceEq, Int.reduceNeg, Nat.reduceGT, Nat.reduceLT, Nat.reduceLeDiff, Nat.reduceEqDiff, ↓reduceIte, reduceCtorEq, Int.reduceToNat, Int.reduceLE, Int.reduceLT, Nat.reduceAdd, Nat.reduceMul, f2, f3, f7, ff_4])
      refine AtCall.by (count17_gives (t := t) hq11.ra (by omega)) ?_
      rintro v n9 H9 k9 ⟨rfl, rfl, rfl⟩
      cases B with
      | false =>
        have e1 : (((cnt nx0 t : Nat) : Int) = 1) = False := by rw [hc11]; simp
        simp (config := { maxSteps := 1000000 }) only [SS, qg0, qgb, qgl, qgi, qgz, qge, forall_const, tor, vun, tlen2, tpick, textr, tbox, one, Go.AM.splice, Int.reduceEq, Int.reduceNeg, Nat.reduceGT, Nat.reduceLT, Nat.reduceLeDiff, Nat.reduceEqDiff, ↓reduceIte, reduceCtorEq, Int.reduceToNat, Int.reduceLE, Int.reduceLT, Nat.reduceAdd, Nat.reduceMul, e1, ff_4]
        repeat (first | apply qqa | apply qqb | apply qqc | apply qqd | apply qqe | apply qqf | apply qqg | apply qqh | refine qqi rfl ?_ | ((first | (refine WK.rgn ?_ ?_; kernel_rfl) | refine AtCall.now ?_); simp (config := { maxSteps := 1000000 }) only [SS, qg0, qgb, qgl, qgi, qgz, qge, forall_const, tor, vun, tlen2, tpick, textr, tbox, one, Go.AM.splice, Int.reduceEq, Int.reduceNeg, Nat.reduceGT, Nat.reduceLT, Nat.reduceLeDiff, Nat.reduceEqDiff, ↓reduceIte, reduceCtorEq, Int.reduceToNat, Int.reduceLE, Int.reduceLT, Nat.reduceAdd, Nat.reduceMul, ff_4]) | refine qqj rfl ?_ | refine qqk rfl ?_)
        exact WK.skipNil ⟨rfl, rfl, rfl, f2, f3, f7, rfl, rfl, rfl, rfl⟩
      | true =>
        have e1 : (((cnt nx0 t : Nat) : Int) = 1) = True := by rw [hc11]; simp
        simp (config := { maxSteps := 1000000 }) only [SS, qg0, qgb, qgl, qgi, qgz, qge, forall_const, tor, vun, tlen2, tpick, textr, tbox, one, Go.AM.splice, Int.reduceEq, Int.reduceNeg, Nat.reduceGT, Nat.reduceLT, Nat.reduceLeDiff, Nat.reduceEqDiff, ↓reduceIte, reduceCtorEq, Int.reduceToNat, Int.reduceLE, Int.reduceLT, Nat.reduceAdd, Nat.reduceMul, e1, ff_4]
        repeat (first | apply qqa | apply qqb | apply qqc | apply qqd | apply qqe | apply qqf | apply qqg | apply qqh | refine qqi rfl ?_ | ((first | (refine WK.rgn ?_ ?_; kernel_rfl) | refine AtCall.now ?_); simp (config := { maxSteps := 1000000 }) only [SS, qg0, qgb, qgl, qgi, qgz, qge, forall_const, tor, vun, tlen2, tpick, textr, tbox, one, Go.AM.splice, Int.reduceEq, Int.reduceNeg, Nat.reduceGT, Nat.reduceLT, Nat.reduceLeDiff, Nat.reduceEqDiff, ↓reduceIte, reduceCtorEq, Int.reduceToNat, Int.reduceLE, Int.reduceLT, Nat.reduceAdd, Nat.reduceMul, ff_4]) | refine qqj rfl ?_ | refine qqk rfl ?_)
        exact WK.skipNil ⟨rfl, rfl, rfl, f2, f3, f7, rfl, rfl, rfl, rfl⟩
    clear f2 f3 f7 f28 f29 f30
    rintro ⟨f, n9, H9⟩ ⟨rfl, rfl, f2, f3, f7, f10, f11, f12, f13⟩
    simp only at f2 f3 f7 f10 f11 f12 f13 kx8 zk8 cw8 wo8 wn8 hn8 hq10 hq11
    apply WK.skipSeq
    apply WK.seq
    refine WK.cut (fun s => Kx (fun z => z = o ∨ N ≤ z) n7 H7 s.n s.H ∧ ZK (fun z => z < n2 ∨ VP (.slice q10 u.length u.length) z ∨ VP (.slice q11 nx0.length nx0.length) z) H7 s.H ∧ CW (fun z => z < n2 ∨ VP (.slice q10 u.length u.length) z ∨ VP (.slice q11 nx0.length nx0.length) z) s.n s.H S N o pt1 pv1 pr1 pg1 pe1 pc1 g co u ∧ s.f 2 = .int .i64 t ∧ s.f 3 = .pointer (some ⟨n, 0, none⟩) ∧ s.f 7 = .pointer (some ⟨o, 0, none⟩) ∧ s.f 10 = .slice q10 u.length u.length ∧ s.f 11 = .slice q11 nx0.length nx0.length ∧ s.f 12 = .int .i64 (s0 : Nat)) ?_ ?_
    · cases B with
      | false =>
        repeat (first | apply qqa | apply qqb | apply qqc | apply qqd | apply qqe | apply qqf | apply qqg | apply qqh | refine qqi rfl ?_ | ((first | (refine WK.rgn ?_ ?_; kernel_rfl) | refine AtCall.now ?_); simp (config := { maxSteps := 1000000 }) only [SS, qg0, qgb, qgl, qgi, qgz, qge, forall_const, tor, vun, tlen2, tpick, textr, tbox, one, Go.AM.splice, Int.reduceEq, Int.reduceNeg, Nat.reduceGT, Nat.reduceLT, Nat.reduceLeDiff, Nat.reduceEqDiff, ↓reduceIte, reduceCtorEq, Int.reduceToNat, Int.reduceLE, Int.reduceLT, Nat.reduceAdd, Nat.reduceMul, f2, f3, f7, f10, f11, f12, f13, ff_4]) | refine qqj rfl ?_ | refine qqk rfl ?_)
        exact WK.skipNil ⟨rfl, kx8, zk8, by simpa using cw8, f2, f3, f7, f10, f11, f12⟩
      | true =>
        rw [if_pos rfl] at cw8
        repeat (first | apply qqa | apply qqb | apply qqc | apply qqd | apply qqe | apply qqf | apply qqg | apply qqh | refine qqi rfl ?_)
        (refine WK.rgn ?_ ?_; kernel_rfl; simp (config := { maxSteps := 1000000 }) only [SS, qg0, qgb, qgl, qgi, qgz, qge, forall_const, tor, vun, tlen2, tpick, textr, tbox, one, Go.AM.splice, Int.reduceEq, Int.reduceNeg, Nat.reduceGT, Nat.reduceLT, Nat.reduceLeDiff, Nat.reduceEqDiff, ↓reduceIte, reduceCtorEq, Int.reduceToNat, Int.reduceLE, Int.reduceLT, Nat.reduceAdd, Nat.reduceMul, f2, f3, f7, f10, f11, f12, f13, ff_4])
        refine AtCall.byX (pop_cw K cw8 (by simp; omega)) ?_
        rintro v n10 H10 kx10 ⟨rfl, zk10, cw10⟩
        rw [List.dropLast_concat] at cw10
        have hne : decide (u ++ [t] ≠ []) = true := by simp
        rw [hne]
        simp (config := { maxSteps := 1000000 }) only [SS, qg0, qgb, qgl, qgi, qgz, qge, forall_const, tor, vun, tlen2, tpick, textr, tbox, one, Go.AM.splice, Int.reduceEq, Int.reduceNeg, Nat.reduceGT, Nat.reduceLT, Nat.reduceLeDiff, Nat.reduceEqDiff, ↓reduceIte, reduceCtorEq, Int.reduceToNat, Int.reduceLE, Int.reduceLT, Nat.reduceAdd, Nat.reduceMul, f7, ff_4]
        refine AtCall.by (short_cw K cw10 (by omega)) ?_
        rintro v n11 H11 k11 rfl
        rw [hS]
        have e2 : (((s0 : Nat) : Int) = ((s0 : Nat) : Int)) = True := eq_true rfl
        simp (config := { maxSteps := 1000000 }) only [SS, qg0, qgb, qgl, qgi, qgz, qge, forall_const, tor, vun, tlen2, tpick, textr, tbox, one, Go.AM.splice, Int.reduceEq, Int.reduceNeg, Nat.reduceGT, Nat.reduceLT, Nat.reduceLeDiff, Nat.reduceEqDiff, ↓reduceIte, reduceCtorEq, Int.reduceToNat, Int.reduceLE, Int.reduceLT, Nat.reduceAdd, Nat.reduceMul, f12, e2, ff_4]
        repeat (first | apply qqa | apply qqb | apply qqc | apply qqd | apply qqe | apply qqf | apply qqg | apply qqh | refine qqi rfl ?_ | ((first | (refine WK.rgn ?_ ?_; kernel_rfl) | refine AtCall.now ?_); simp (config := { maxSteps := 1000000 }) only [SS, qg0, qgb, qgl, qgi, qgz, qge, forall_const, tor, vun, tlen2, tpick, textr, tbox, one, Go.AM.splice, Int.reduceEq, Int.reduceNeg, Nat.reduceGT, Nat.reduceLT, Nat.reduceLeDiff, Nat.reduceEqDiff, ↓reduceIte, reduceCtorEq, Int.reduceToNat, Int.reduceLE, Int.reduceLT, Nat.reduceAdd, Nat.reduceMul, ff_4]) | refine qqj rfl ?_ | refine qqk rfl ?_)
        exact WK.skipNil ⟨rfl, (kx8.trans (kx10.mono fun z _ h => h)).trans k11.kx, (zk8.trans zk10).trans (ZK.kp k11 cw10.1), cw10.kp k11, f2, f3, f7, f10, f11, f12⟩
    clear f2 f3 f7 f10 f11 f12 f13 cw8 kx8 zk8 wo8 wn8 hq10 hq11
    rintro ⟨f, n9, H9⟩ ⟨kx9, zk9, cw9, f2, f3, f7, f10, f11, f12⟩
    simp only at f2 f3 f7 f10 f11 f12 kx9 zk9 cw9
    have hn9 := kx9.le
    have wo9 := wo7.zk zk9 fun q hq => .inr (.inl hq)
    have wn9 := wn7.zk zk9 fun q hq => .inr (.inr hq)
    have keep9 : ∀ x, x < n → H9 x = H x := fun x hx => (kx9.keep x (by omega) (by omega)).trans (keep7 x hx)
    have hb9 : H9 n = .cells (gcells pt pv pr g) 25 true := (kx9.keep n (by omega) (by omega)).trans hb7
    have hw9 := cw9.1
    apply WK.skipSeq
    apply WK.seq
    repeat (first | apply qqa | apply qqb | apply qqc | apply qqd | apply qqe | apply qqf | apply qqg | apply qqh | refine qqi rfl ?_)
    (refine WK.rgn ?_ ?_; kernel_rfl; simp (config := { maxSteps := 1000000 }) only [SS, qg0, qgb, qgl, qgi, qgz, qge, forall_const, tor, vun, tlen2, tpick, textr, tbox, one, Go.AM.splice, Int.reduceEq, Int.reduceNeg, Nat.reduceGT, Nat.reduceLT, Nat.reduceLeDiff, Nat.reduceEqDiff, ↓reduceIte, reduceCtorEq, Int.reduceToNat, Int.reduceLE, Int.reduceLT, Nat.reduceAdd, Nat.reduceMul, f2, f3, f7, f10, f11, f12, ff_4])
    refine AtCall.by (word_cw cw9 (by omega)) ?_
    rintro v n10 H10 k10 wo10
    have cw10 := cw9.kp k10
    have wo9' := wo9.kp hw9 k10
    have wn9' := wn9.kp hw9 k10
    obtain ⟨q12, rfl, hq12⟩ := wo10.rs
    obtain ⟨q10', e10, hq10⟩ := wo9'.rs
    cases e10
    simp (config := { maxSteps := 1000000 }) only [SS, qg0, qgb, qgl, qgi, qgz, qge, forall_const, tor, vun, tlen2, tpick, textr, tbox, one, Go.AM.splice, Int.reduceEq, Int.reduceNeg, Nat.reduceGT, Nat.reduceLT, Nat.reduceLeDiff, Nat.reduceEqDiff, ↓reduceIte, reduceCtorEq, Int.reduceToNat, Int.reduceLE, Int.reduceLT, Nat.reduceAdd, Nat.reduceMul, f10, ff_4]
    refine AtCall.by (same_gives hq12.ra hq10.ra (by unfold maxL; omega) (by unfold maxL; omega)) ?_
    rintro v n11 H11 k11 ⟨rfl, rfl, rfl⟩
    rw [same_refl]
    simp (config := { maxSteps := 1000000 }) only [SS, qg0, qgb, qgl, qgi, qgz, qge, forall_const, tor, vun, tlen2, tpick, textr, tbox, one, Go.AM.splice, Int.reduceEq, Int.reduceNeg, Nat.reduceGT, Nat.reduceLT, Nat.reduceLeDiff, Nat.reduceEqDiff, ↓reduceIte, reduceCtorEq, Int.reduceToNat, Int.reduceLE, Int.reduceLT, Nat.reduceAdd, Nat.reduceMul, f7, ff_4]
    refine AtCall.by (next_cw K cw10 (by omega)) ?_
    rintro v n12 H12 k12 wo12
    rw [hnx] at wo12
    have cw12 := cw10.kp k12
    have wn12 := wn9'.kp cw10.1 k12
    obtain ⟨q13, rfl, hq13⟩ := wo12.rs
    obtain ⟨q11', e11, hq11⟩ := wn12.rs
    cases e11
    simp (config := { maxSteps := 1000000 }) only [SS, qg0, qgb, qgl, qgi, qgz, qge, forall_const, tor, vun, tlen2, tpick, textr, tbox, one, Go.AM.splice, Int.reduceEq, Int.reduceNeg, Nat.reduceGT, Nat.reduceLT, Nat.reduceLeDiff, Nat.reduceEqDiff, ↓reduceIte, reduceCtorEq, Int.reduceToNat, Int.reduceLE, Int.reduceLT, Nat.reduceAdd, Nat.reduceMul, f11, ff_4]
    refine AtCall.by (same_gives hq13.ra hq11.ra (by unfold maxL; omega) (by unfold maxL; omega)) ?_
    rintro v n13 H13 k13 ⟨rfl, rfl, rfl⟩
    rw [same_refl]
    simp (config := { maxSteps := 1000000 }) only [SS, qg0, qgb, qgl, qgi, qgz, qge, forall_const, tor, vun, tlen2, tpick, textr, tbox, one, Go.AM.splice, Int.reduceEq, Int.reduceNeg, Nat.reduceGT, Nat.reduceLT, Nat.reduceLeDiff, Nat.reduceEqDiff, ↓reduceIte, reduceCtorEq, Int.reduceToNat, Int.reduceLE, Int.reduceLT, Nat.reduceAdd, Nat.reduceMul, f7, ff_4]
    refine AtCall.by (acc_cw K cw12 (by omega)) ?_
    rintro v n14 H14 k14 rfl
    rw [hacs]
    have cw14 := cw12.kp k14
    have e3 : (((s0 : Nat) : Int) = 0) = (s0 = 0) := by simp
    have k914 := (k10.trans k12).trans k14
    have hn914 := k914.le
    have wo14 := (wo9'.kp cw10.1 k12).kp cw12.1 k14
    simp (config := { maxSteps := 1000000 }) only [SS, qg0, qgb, qgl, qgi, qgz, qge, forall_const, tor, vun, tlen2, tpick, textr, tbox, one, Go.AM.splice, Int.reduceEq, Int.reduceNeg, Nat.reduceGT, Nat.reduceLT, Nat.reduceLeDiff, Nat.reduceEqDiff, ↓reduceIte, reduceCtorEq, Int.reduceToNat, Int.reduceLE, Int.reduceLT, Nat.reduceAdd, Nat.reduceMul, f12, e3, beq_self_eq_true, ff_4]
    repeat (first | apply qqa | apply qqb | apply qqc | apply qqd | apply qqe | apply qqf | apply qqg | apply qqh | refine qqi rfl ?_ | ((first | (refine WK.rgn ?_ ?_; kernel_rfl) | refine AtCall.now ?_); simp (config := { maxSteps := 1000000 }) only [SS, qg0, qgb, qgl, qgi, qgz, qge, forall_const, tor, vun, tlen2, tpick, textr, tbox, one, Go.AM.splice, Int.reduceEq, Int.reduceNeg, Nat.reduceGT, Nat.reduceLT, Nat.reduceLeDiff, Nat.reduceEqDiff, ↓reduceIte, reduceCtorEq, Int.reduceToNat, Int.reduceLE, Int.reduceLT, Nat.reduceAdd, Nat.reduceMul, f3, f7, f10, f11, f12, ff_4]) | refine qqj rfl ?_ | refine qqk rfl ?_)
    refine AtCall.byX (fin_cw (Z := fun z => z < n2 ∨ VP (.slice q10 u.length u.length) z) K (cw14.mono fun z hz => by
      rcases hz with hz | hz
      · exact .inl hz
      · exact .inr (.inl hz)) (by omega) (fun z hz => by
      rcases hz with hz | hz
      · omega
      · exact wo14.lt cw14.1 hz)) ?_
    rintro v n15 H15 kx15 ⟨zk15, cw15, hy15, hn15⟩
    have hnle15 := kx15.le
    rw [hS] at hy15 hn15
    have hb15 : H15 n = .cells (gcells pt pv pr g) 25 true := (kx15.keep n (by omega) (by omega)).trans ((k914.keep n (by omega)).trans hb9)
    have keep15 : ∀ x, x < n → H15 x = H x := fun x hx => (kx15.keep x (by omega) (by omega)).trans ((k914.keep x (by omega)).trans (keep9 x hx))
    by_cases hbig : 2048 < s0
    · have hv := hn15 hbig
      subst hv
      have hgt : ((100 : Int) < ((s0 : Nat) : Int)) = True := eq_true (by omega)
      have h00 : (((0 : Nat) : Int) = 0) = True := by simp
      simp (config := { maxSteps := 1000000 }) only [SS, qg0, qgb, qgl, qgi, qgz, qge, forall_const, tor, vun, tlen2, tpick, textr, tbox, one, Go.AM.splice, Int.reduceEq, Int.reduceNeg, Nat.reduceGT, Nat.reduceLT, Nat.reduceLeDiff, Nat.reduceEqDiff, ↓reduceIte, reduceCtorEq, Int.reduceToNat, Int.reduceLE, Int.reduceLT, Nat.reduceAdd, Nat.reduceMul, ff_4]
      repeat (first | apply qqa | apply qqb | apply qqc | apply qqd | apply qqe | apply qqf | apply qqg | apply qqh | refine qqi rfl ?_ | ((first | (refine WK.rgn ?_ ?_; kernel_rfl) | refine AtCall.now ?_); simp (config := { maxSteps := 1000000 }) only [SS, qg0, qgb, qgl, qgi, qgz, qge, forall_const, tor, vun, tlen2, tpick, textr, tbox, one, Go.AM.splice, Int.reduceEq, Int.reduceNeg, Nat.reduceGT, Nat.reduceLT, Nat.reduceLeDiff, Nat.reduceEqDiff, ↓reduceIte, reduceCtorEq, Int.reduceToNat, Int.reduceLE, Int.reduceLT, Nat.reduceAdd, Nat.reduceMul, f12, h00, hgt, ff_4]) | refine qqj rfl ?_ | refine qqk rfl ?_)
      (first | refine WK.retNil ⟨Or.inr rfl, _, rfl, ?_, ?_⟩ | refine WK.skipNil ⟨Or.inl rfl, _, rfl, ?_, ?_⟩)
      · exact keep15
      · simp only [packed, fset_apply, Nat.reduceEqDiff, ↓reduceIte, List.getD_cons_zero, List.getD_cons_succ, ff_4]
    · obtain ⟨r, hv, wr⟩ := hy15 (by omega)
      subst hv
      obtain ⟨hfl, hfy⟩ := hfin (by omega)
      generalize finR g (cF co) s0 u = m at *
      obtain ⟨qm, rfl, hqm⟩ := wr.rs
      have hw15 := cw15.1
      have wo15 := wo14.zk zk15 fun q hq => .inr hq
      have e4 : (((m.length : Nat) : Int) = ((s0 : Nat) : Int)) = True := eq_true (by omega)
      have kA := Kp.new n15 H15 (.cells [] 3 true)
      have bA := hset_at H15 n15 (.cells [] 3 true)
      have gA := (kA.keep n (by omega)).trans hb15
      obtain ⟨rd1, src1, hrd1⟩ := wo15.src2 hw15 kA.keep
      generalize hA : hset H15 n15 (.cells [] 3 true) = HA at *
      have kA1 : Kp n15 H15 (n15 + 1) (hset HA n15 .dead) := kA.set (x := n15) .dead (by omega) (by omega)
      generalize hA1 : hset HA n15 .dead = HA1 at *
      have kB := Kp.new (n15 + 1) HA1 (.cells (u.map (Value.int .i64)) 3 true)
      have bB := hset_at HA1 (n15 + 1) (.cells (u.map (Value.int .i64)) 3 true)
      have kB0 := kA1.trans kB
      obtain ⟨rd2, src2, hrd2⟩ := wr.src2 hw15 kB0.keep
      generalize hB2 : hset HA1 (n15 + 1) (.cells (u.map (Value.int .i64)) 3 true) = HB at *
      have kB1 : Kp n15 H15 (n15 + 1 + 1) (hset HB (n15 + 1) .dead) := kB0.set (x := n15 + 1) .dead (by omega) (by omega)
      generalize hB1 : hset HB (n15 + 1) .dead = HB1 at *
      have kC := Kp.new (n15 + 1 + 1) HB1 (.cells (u.map (Value.int .i64) ++ m.map (Value.int .i64)) 3 true)
      have bC := hset_at HB1 (n15 + 1 + 1) (.cells (u.map (Value.int .i64) ++ m.map (Value.int .i64)) 3 true)
      have kC0 := kB1.trans kC
      generalize hC : hset HB1 (n15 + 1 + 1) (.cells (u.map (Value.int .i64) ++ m.map (Value.int .i64)) 3 true) = HC at *
      unfold tsrc at src1 src2
      simp only [tsrc2, Nat.mul_one] at src1 src2
      have v1 : rd1.contains n15 = false := by
        rw [Bool.eq_false_iff]; intro h
        have := hrd1 n15 (by simpa using h)
        omega
      have v2 : rd2.contains (n15 + 1) = false := by
        rw [Bool.eq_false_iff]; intro h
        have := hrd2 (n15 + 1) (by simpa using h)
        omega
      have gt3 : (gcells pt pv pr g).take 3 = gcells pt pv pr g := rfl
      have v3 : u.length ≤ bigN := by unfold bigN; omega
      have v4 : u.length + m.length ≤ bigN := by unfold bigN; omega
      have v5 : (u.map (Value.int .i64)).take u.length = u.map (Value.int .i64) := List.take_of_length_le (by simp)
      have v6 : u.length ≤ (u.map (Value.int .i64)).length := by simp
      simp (config := { maxSteps := 1000000 }) only [SS, qg0, qgb, qgl, qgi, qgz, qge, forall_const, tor, vun, tlen2, tpick, textr, tbox, one, Go.AM.splice, Int.reduceEq, Int.reduceNeg, Nat.reduceGT, Nat.reduceLT, Nat.reduceLeDiff, Nat.reduceEqDiff, ↓reduceIte, reduceCtorEq, Int.reduceToNat, Int.reduceLE, Int.reduceLT, Nat.reduceAdd, Nat.reduceMul, ff_4]
      repeat (first | apply qqa | apply qqb | apply qqc | apply qqd | apply qqe | apply qqf | apply qqg | apply qqh | refine qqi rfl ?_)
      (refine WK.rgn ?_ ?_; kernel_rfl; simp (config := { maxSteps := 1000000 }) only [SS, qg0, qgb, qgl, qgi, qgz, qge, forall_const, tor, vun, tlen2, tpick, textr, tbox, one, Go.AM.splice, Int.reduceEq, Int.reduceNeg, Nat.reduceGT, Nat.reduceLT, Nat.reduceLeDiff, Nat.reduceEqDiff, ↓reduceIte, reduceCtorEq, Int.reduceToNat, Int.reduceLE, Int.reduceLT, Nat.reduceAdd, Nat.reduceMul, ff_4])
      repeat (first | apply qqa | apply qqb | apply qqc | apply qqd | apply qqe | apply qqf | apply qqg | apply qqh | refine qqi rfl ?_)
      first | refine qqj rfl ?_ | refine qqk rfl ?_
      repeat (first | apply qqa | apply qqb | apply qqc | apply qqd | apply qqe | apply qqf | apply qqg | apply qqh | refine qqi rfl ?_)
      (refine WK.rgl [(5, 8), (5, 10)] (by kernel_rfl) ?_; simp (config := { maxSteps := 1000000 }) only [wl, wl1_false, wl1_true, wl2_none, wl2_some, wl3_some, wl3_none, SS, forall_const, wx, tguard, acallee, top, tval, fput, tor, vsh, vbin, vun, tload, tload2, tload3, tidx, tidx2, tidx3, tlen2, tpick, textr, tbox, one, tbs, tbs2, afill, Go.AM.splice, tap, tap2, tap3, tap4, tsrc, tsrc2, Int.reduceEq, Int.reduceNeg, Nat.reduceGT, Nat.reduceLT, Nat.reduceLeDiff, Nat.reduceEqDiff, ↓reduceIte, reduceCtorEq, Int.reduceToNat, Int.reduceLE, Int.reduceLT, Nat.reduceAdd, Nat.reduceMul, f3, f7, f10, f12, e4, hb15, gc_len, gc_all, hA, bA, src1, v1, v3, hA1, hB2, bB, src2, v2, v4, v5, v6, hB1, hC, List.drop_zero, List.nil_append, List.append_nil, List.take_nil, List.drop_nil, Nat.zero_add, Nat.add_zero, List.length_nil, List.length_map, gt3, ff_4])
      have hw15C := kC0.wf hw15
      have keepC : ∀ x, x < n → HC x = H x := fun x hx => (kC0.keep x (by omega)).trans (keep15 x hx)
      have hgC : RG HC (.agg (gcells pt pv pr g).toArray) g := hg0.mono hw ⟨by omega, keepC, fun _ => hw15C⟩
      have hin := word_in ok hfy
      have hp := accepts_gives (w := u ++ m) (a := some ⟨n15 + 1 + 1, 0, none⟩) hw15C hgC wg ok hf (fun _ => ⟨_, 0, _, _, _, rfl, bC, fun i y e => by rw [Nat.zero_add, ← List.map_append, List.getElem?_map, e]; rfl⟩) (by simp; omega) hin
      rw [List.length_append] at hp
      refine AtCallL.by hp ?_
      rintro v n16 H16 k16 rfl
      rw [(accW_iff ok).2 hfy]
      have cw16 := ((cw15.kp kC0).kp k16)
      have wo16 := (wo15.kp hw15 kC0).kp hw15C k16
      simp (config := { maxSteps := 1000000 }) only [wl, wl1_false, wl1_true, wl2_none, wl2_some, wl3_some, wl3_none, SS, forall_const, wx, tguard, acallee, top, tval, fput, tor, vsh, vbin, vun, tload, tload2, tload3, tidx, tidx2, tidx3, tlen2, tpick, textr, tbox, one, tbs, tbs2, afill, Go.AM.splice, tap, tap2, tap3, tap4, tsrc, tsrc2, Int.reduceEq, Int.reduceNeg, Nat.reduceGT, Nat.reduceLT, Nat.reduceLeDiff, Nat.reduceEqDiff, ↓reduceIte, reduceCtorEq, Int.reduceToNat, Int.reduceLE, Int.reduceLT, Nat.reduceAdd, Nat.reduceMul, f7, ff_4]
      refine AtCallL.by (word_cw cw16 (by omega)) ?_
      rintro v n17 H17 k17 wo17
      have wo17' := wo16.kp cw16.1 k17
      obtain ⟨q14, rfl, hq14⟩ := wo17.rs
      obtain ⟨q15, e15, hq15⟩ := wo17'.rs
      cases e15
      simp (config := { maxSteps := 1000000 }) only [wl, wl1_false, wl1_true, wl2_none, wl2_some, wl3_some, wl3_none, SS, forall_const, wx, tguard, acallee, top, tval, fput, tor, vsh, vbin, vun, tload, tload2, tload3, tidx, tidx2, tidx3, tlen2, tpick, textr, tbox, one, tbs, tbs2, afill, Go.AM.splice, tap, tap2, tap3, tap4, tsrc, tsrc2, Int.reduceEq, Int.reduceNeg, Nat.reduceGT, Nat.reduceLT, Nat.reduceLeDiff, Nat.reduceEqDiff, ↓reduceIte, reduceCtorEq, Int.reduceToNat, Int.reduceLE, Int.reduceLT, Nat.reduceAdd, Nat.reduceMul, f10, ff_4]
      refine AtCallL.by (same_gives hq14.ra hq15.ra (by unfold maxL; omega) (by unfold maxL; omega)) ?_
      rintro v n18 H18 k18 ⟨rfl, rfl, rfl⟩
      rw [same_refl]
      simp (config := { maxSteps := 1000000 }) only [wl, wl1_false, wl1_true, wl2_none, wl2_some, wl3_some, wl3_none, SS, forall_const, wx, tguard, acallee, top, tval, fput, tor, vsh, vbin, vun, tload, tload2, tload3, tidx, tidx2, tidx3, tlen2, tpick, textr, tbox, one, tbs, tbs2, afill, Go.AM.splice, tap, tap2, tap3, tap4, tsrc, tsrc2, Int.reduceEq, Int.reduceNeg, Nat.reduceGT, Nat.reduceLT, Nat.reduceLeDiff, Nat.reduceEqDiff, ↓reduceIte, reduceCtorEq, Int.reduceToNat, Int.reduceLE, Int.reduceLT, Nat.reduceAdd, Nat.reduceMul, ff_4]
      refine ⟨light_cons rfl rfl (lapart_rw (by simp; omega)) (light_cons rfl rfl (lapart_rw (by simp; omega)) light_nil), ?_⟩
      repeat (first | apply qqa | apply qqb | apply qqc | apply qqd | apply qqe | apply qqf | apply qqg | apply qqh | refine qqi rfl ?_ | ((first | (refine WK.rgn ?_ ?_; kernel_rfl) | refine AtCall.now ?_); simp (config := { maxSteps := 1000000 }) only [SS, qg0, qgb, qgl, qgi, qgz, qge, forall_const, tor, vun, tlen2, tpick, textr, tbox, one, Go.AM.splice, Int.reduceEq, Int.reduceNeg, Nat.reduceGT, Nat.reduceLT, Nat.reduceLeDiff, Nat.reduceEqDiff, ↓reduceIte, reduceCtorEq, Int.reduceToNat, Int.reduceLE, Int.reduceLT, Nat.reduceAdd, Nat.reduceMul, ff_4]) | refine qqj rfl ?_ | refine qqk rfl ?_)
      (first | refine WK.retNil ⟨Or.inr rfl, _, rfl, ?_, ?_⟩ | refine WK.skipNil ⟨Or.inl rfl, _, rfl, ?_, ?_⟩)
      · have := kC0.le
        have := k16.le
        exact fun x hx => (k17.keep x (by omega)).trans ((k16.keep x (by omega)).trans (keepC x hx))
      · simp only [packed, fset_apply, Nat.reduceEqDiff, ↓reduceIte, List.getD_cons_zero, List.getD_cons_succ, ff_4]
end Go.Proofs.Ytpdlmpbhohinpaa
