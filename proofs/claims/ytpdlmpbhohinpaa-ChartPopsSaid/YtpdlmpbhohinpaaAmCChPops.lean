/- A part of a proof. Its conditions: none. -/
import Derived.Test.YtpdlmpbhohinpaaAmCChCw
import Derived.Test.YtpdlmpbhohinpaaAmCChCuts
set_option linter.all false
namespace Go.Proofs.Ytpdlmpbhohinpaa
open Go.AM Go.RowKit
set_option maxRecDepth 100000
def WZ (H : Heap) (z : Nat) (w : List Int) : Prop := ∃ cs, H z = .cells cs 3 true ∧ w.length ≤ cs.length ∧ cs.take w.length = w.map (Value.int .i64)
theorem WZ.zk {Z : Nat → Prop} {H H' : Heap} {z : Nat} {w : List Int} (h : WZ H z w) (k : ZK Z H H') (hz : Z z) : WZ H' z w := by
  obtain ⟨cs, h1, h2⟩ := h
  exact ⟨cs, k.2 _ _ _ _ hz h1, h2⟩
theorem WZ.rs {H : Heap} {z : Nat} {w : List Int} (h : WZ H z w) : RS (Value.int .i64) H (some ⟨z, 0, none⟩) w := by
  obtain ⟨cs, h1, h2, h3⟩ := h
  refine .inr ⟨z, 0, cs, _, _, rfl, h1, by omega, fun i y e => ?_⟩
  have hi := (List.getElem?_eq_some_iff.1 e).1
  have := congrArg (fun l : List Value => l[i]?) h3
  simp only [List.getElem?_take, hi, if_true, List.getElem?_map, e, Option.map_some] at this
  rw [Nat.zero_add]; exact this
theorem same_self : ∀ a : List Int, less a a = false := by
  intro a
  induction a with
  | nil => simp [less]
  | cons x a ih => simp [less, ih]
set_option maxHeartbeats 16000000 in
theorem pops_gives {v : Value} {g : Gram} {a : Option Addr} {w : List Int} {n : Nat} {H : Heap} (hw : WF n H) (hg : RG H v g) (wg : WG g) (ha : RS (Value.int .i64) H a w) (hro : AllRO H) (hwl : w.length ≤ maxL) (hi : ∀ t ∈ w, inI t) :
    Gives Try.prog 6 [v, .slice a w.length w.length] n H fun v _ _ => v = .bool true := by
  have hg0 := hg
  obtain ⟨pt, pv, pr, rfl, ht, hv, hr⟩ := hg
  have hro0 := rro_of hr hro
  refine Gives.of orders ok6 (Nat.le_of_ble_eq_true rfl) ?_
  have hk := Kp.new n H (.cells (gcells pt pv pr g) 25 true)
  have hb := hset_at H n (.cells (gcells pt pv pr g) 25 true)
  repeat (first | apply qqa | apply qqb | apply qqc | apply qqd | apply qqe | apply qqf | apply qqg | apply qqh | refine qqi rfl ?_)
  (refine WK.rgn ?_ ?_; kernel_rfl; simp (config := { maxSteps := 1000000 }) only [SS, qg0, qgb, qgl, qgi, qgx, qgz, qge, forall_const, tor, vun, tlen2, tpick, tbox, one, Go.AM.splice, Int.reduceEq, Int.reduceNeg, Nat.reduceGT, Nat.reduceLT, Nat.reduceLeDiff, Nat.reduceEqDiff, ↓reduceIte, reduceCtorEq, Int.reduceToNat, Int.reduceLE, Int.reduceLT, Nat.reduceAdd, Nat.reduceMul, box_cells, box_one, ff_6])
  generalize hset H n (.cells (gcells pt pv pr g) 25 true) = H1 at *
  repeat (first | apply qqa | apply qqb | apply qqc | apply qqd | apply qqe | apply qqf | apply qqg | apply qqh | refine qqi rfl ?_ | ((first | (refine WK.rgn ?_ ?_; kernel_rfl) | refine AtCall.now ?_); simp (config := { maxSteps := 1000000 }) only [SS, qg0, qgb, qgl, qgi, qgx, qgz, qge, forall_const, tor, vun, tlen2, tpick, tbox, one, Go.AM.splice, Int.reduceEq, Int.reduceNeg, Nat.reduceGT, Nat.reduceLT, Nat.reduceLeDiff, Nat.reduceEqDiff, ↓reduceIte, reduceCtorEq, Int.reduceToNat, Int.reduceLE, Int.reduceLT, Nat.reduceAdd, Nat.reduceMul, ff_6]) | (refine WK.condT ?_ ?_; focus (simp only [ev_tmp, ev_const, fset_apply, Nat.reduceEqDiff, ↓reduceIte, decide_true, decide_false, ff_6]; done)) | (refine WK.condF ?_ ?_; focus (simp only [ev_tmp, ev_const, fset_apply, Nat.reduceEqDiff, ↓reduceIte, decide_true, decide_false, ff_6]; done)))
  refine AtCall.by (alive_gives _ _) ?_
  rintro v n' H' hk' ⟨rfl, rfl, rfl⟩
  simp (config := { maxSteps := 1000000 }) only [SS, qg0, qgb, qgl, qgi, qgx, qgz, qge, forall_const, tor, vun, tlen2, tpick, tbox, one, Go.AM.splice, Int.reduceEq, Int.reduceNeg, Nat.reduceGT, Nat.reduceLT, Nat.reduceLeDiff, Nat.reduceEqDiff, ↓reduceIte, reduceCtorEq, Int.reduceToNat, Int.reduceLE, Int.reduceLT, Nat.reduceAdd, Nat.reduceMul, ff_6]
  repeat (first | apply qqa | apply qqb | apply qqc | apply qqd | apply qqe | apply qqf | apply qqg | apply qqh | refine qqi rfl ?_)
  first | (refine WK.condT ?_ ?_; focus (simp only [ev_tmp, ev_const, fset_apply, Nat.reduceEqDiff, ↓reduceIte, decide_true, decide_false]; done)) | (refine WK.condF ?_ ?_; focus (simp only [ev_tmp, ev_const, fset_apply, Nat.reduceEqDiff, ↓reduceIte, decide_true, decide_false]; done))
  repeat (first | apply qqa | apply qqb | apply qqc | apply qqd | apply qqe | apply qqf | apply qqg | apply qqh | refine qqi rfl ?_)
  (refine WK.rgn ?_ ?_; kernel_rfl; simp (config := { maxSteps := 1000000 }) only [SS, qg0, qgb, qgl, qgi, qgx, qgz, qge, forall_const, tor, vun, tlen2, tpick, tbox, one, Go.AM.splice, Int.reduceEq, Int.reduceNeg, Nat.reduceGT, Nat.reduceLT, Nat.reduceLeDiff, Nat.reduceEqDiff, ↓reduceIte, reduceCtorEq, Int.reduceToNat, Int.reduceLE, Int.reduceLT, Nat.reduceAdd, Nat.reduceMul, hb, gc_len, gc_all, ff_6])
  refine AtCall.by (few17_gives (hk.wf hw) (hg0.mono hw hk) wg) ?_
  rintro v n2 H2 k2 ⟨t, rfl, hok⟩
  have kk2 := hk.trans k2
  have hb2 := (k2.keep n (by omega)).trans hb
  cases t with
  | false =>
    simp (config := { maxSteps := 1000000 }) only [SS, qg0, qgb, qgl, qgi, qgx, qgz, qge, forall_const, tor, vun, tlen2, tpick, tbox, one, Go.AM.splice, Int.reduceEq, Int.reduceNeg, Nat.reduceGT, Nat.reduceLT, Nat.reduceLeDiff, Nat.reduceEqDiff, ↓reduceIte, reduceCtorEq, Int.reduceToNat, Int.reduceLE, Int.reduceLT, Nat.reduceAdd, Nat.reduceMul, ff_6]
    repeat (first | apply qqa | apply qqb | apply qqc | apply qqd | apply qqe | apply qqf | apply qqg | apply qqh | refine qqi rfl ?_ | ((first | (refine WK.rgn ?_ ?_; kernel_rfl) | refine AtCall.now ?_); simp (config := { maxSteps := 1000000 }) only [SS, qg0, qgb, qgl, qgi, qgx, qgz, qge, forall_const, tor, vun, tlen2, tpick, tbox, one, Go.AM.splice, Int.reduceEq, Int.reduceNeg, Nat.reduceGT, Nat.reduceLT, Nat.reduceLeDiff, Nat.reduceEqDiff, ↓reduceIte, reduceCtorEq, Int.reduceToNat, Int.reduceLE, Int.reduceLT, Nat.reduceAdd, Nat.reduceMul, ff_6]) | (refine WK.condT ?_ ?_; focus (simp only [ev_tmp, ev_const, fset_apply, Nat.reduceEqDiff, ↓reduceIte, decide_true, decide_false, ff_6]; done)) | (refine WK.condF ?_ ?_; focus (simp only [ev_tmp, ev_const, fset_apply, Nat.reduceEqDiff, ↓reduceIte, decide_true, decide_false, ff_6]; done)))
    (first | refine WK.retNil ⟨Or.inr rfl, _, rfl, ?_, ?_⟩ | refine WK.skipNil ⟨Or.inl rfl, _, rfl, ?_, ?_⟩)
    · exact kk2.keep
    · simp only [packed, fset_apply, Nat.reduceEqDiff, ↓reduceIte, List.getD_cons_zero, List.getD_cons_succ, ff_6]
  | true =>
  obtain ⟨hf, ok⟩ := hok rfl
  by_cases h30 : (30 : Int) < w.length
  · simp (config := { maxSteps := 1000000 }) only [SS, qg0, qgb, qgl, qgi, qgx, qgz, qge, forall_const, tor, vun, tlen2, tpick, tbox, one, Go.AM.splice, Int.reduceEq, Int.reduceNeg, Nat.reduceGT, Nat.reduceLT, Nat.reduceLeDiff, Nat.reduceEqDiff, ↓reduceIte, reduceCtorEq, Int.reduceToNat, Int.reduceLE, Int.reduceLT, Nat.reduceAdd, Nat.reduceMul, h30, ff_6]
    repeat (first | apply qqa | apply qqb | apply qqc | apply qqd | apply qqe | apply qqf | apply qqg | apply qqh | refine qqi rfl ?_ | ((first | (refine WK.rgn ?_ ?_; kernel_rfl) | refine AtCall.now ?_); simp (config := { maxSteps := 1000000 }) only [SS, qg0, qgb, qgl, qgi, qgx, qgz, qge, forall_const, tor, vun, tlen2, tpick, tbox, one, Go.AM.splice, Int.reduceEq, Int.reduceNeg, Nat.reduceGT, Nat.reduceLT, Nat.reduceLeDiff, Nat.reduceEqDiff, ↓reduceIte, reduceCtorEq, Int.reduceToNat, Int.reduceLE, Int.reduceLT, Nat.reduceAdd, Nat.reduceMul, ff_6]) | (refine WK.condT ?_ ?_; focus (simp only [ev_tmp, ev_const, fset_apply, Nat.reduceEqDiff, ↓reduceIte, decide_true, decide_false, ff_6]; done)) | (refine WK.condF ?_ ?_; focus (simp only [ev_tmp, ev_const, fset_apply, Nat.reduceEqDiff, ↓reduceIte, decide_true, decide_false, ff_6]; done)))
    (first | refine WK.retNil ⟨Or.inr rfl, _, rfl, ?_, ?_⟩ | refine WK.skipNil ⟨Or.inl rfl, _, rfl, ?_, ?_⟩)
    · exact kk2.keep
    · simp only [packed, fset_apply, Nat.reduceEqDiff, ↓reduceIte, List.getD_cons_zero, List.getD_cons_succ, ff_6]
  have hw2 := kk2.wf hw
  have hnle := hk.le
  have hnle2 := k2.le
  have hro2 : RRO H2 pr g.rules := hro0.sub (fun x hx => kk2.keep x (Classical.byContradiction fun hc => hx (hw x (by omega))))
  simp (config := { maxSteps := 1000000 }) only [SS, qg0, qgb, qgl, qgi, qgx, qgz, qge, forall_const, tor, vun, tlen2, tpick, tbox, one, Go.AM.splice, Int.reduceEq, Int.reduceNeg, Nat.reduceGT, Nat.reduceLT, Nat.reduceLeDiff, Nat.reduceEqDiff, ↓reduceIte, reduceCtorEq, Int.reduceToNat, Int.reduceLE, Int.reduceLT, Nat.reduceAdd, Nat.reduceMul, h30, ff_6]
  repeat (first | apply qqa | apply qqb | apply qqc | apply qqd | apply qqe | apply qqf | apply qqg | apply qqh | refine qqi rfl ?_ | ((first | (refine WK.rgn ?_ ?_; kernel_rfl) | refine AtCall.now ?_); simp (config := { maxSteps := 1000000 }) only [SS, qg0, qgb, qgl, qgi, qgx, qgz, qge, forall_const, tor, vun, tlen2, tpick, tbox, one, Go.AM.splice, Int.reduceEq, Int.reduceNeg, Nat.reduceGT, Nat.reduceLT, Nat.reduceLeDiff, Nat.reduceEqDiff, ↓reduceIte, reduceCtorEq, Int.reduceToNat, Int.reduceLE, Int.reduceLT, Nat.reduceAdd, Nat.reduceMul, hb2, gc_len, gc_all, ff_6]) | (refine WK.condT ?_ ?_; focus (simp only [ev_tmp, ev_const, fset_apply, Nat.reduceEqDiff, ↓reduceIte, decide_true, decide_false, hb2, gc_len, gc_all, ff_6]; done)) | (refine WK.condF ?_ ?_; focus (simp only [ev_tmp, ev_const, fset_apply, Nat.reduceEqDiff, ↓reduceIte, decide_true, decide_false, hb2, gc_len, gc_all, ff_6]; done)))
  refine AtCall.by (new_cw (H0 := H) hw2 (hg0.mono hw kk2) wg ok hf hro2) ?_
  rintro v n3 H3 k3 ⟨S, N, o, pt1, pv1, pr1, pg1, pe1, pc1, co, rfl, K, hno, cw⟩
  have kk3 := kk2.trans k3
  have hnle3 := k3.le
  have hb3 := (k3.keep n (by omega)).trans hb2
  have hw3 := kk3.wf hw
  have hNn : n3 ≥ N := cw.2.2.1
  have k4 := Kp.new n3 H3 (.cells [] 3 true)
  have b4 := hset_at H3 n3 (.cells [] 3 true)
  simp (config := { maxSteps := 1000000 }) only [SS, qg0, qgb, qgl, qgi, qgx, qgz, qge, forall_const, tor, vun, tlen2, tpick, tbox, one, Go.AM.splice, Int.reduceEq, Int.reduceNeg, Nat.reduceGT, Nat.reduceLT, Nat.reduceLeDiff, Nat.reduceEqDiff, ↓reduceIte, reduceCtorEq, Int.reduceToNat, Int.reduceLE, Int.reduceLT, Nat.reduceAdd, Nat.reduceMul, ff_6]
  repeat (first | apply qqa | apply qqb | apply qqc | apply qqd | apply qqe | apply qqf | apply qqg | apply qqh | refine qqi rfl ?_ | ((first | (refine WK.rgn ?_ ?_; kernel_rfl) | refine AtCall.now ?_); simp (config := { maxSteps := 1000000 }) only [SS, qg0, qgb, qgl, qgi, qgx, qgz, qge, forall_const, tor, vun, tlen2, tpick, tbox, one, Go.AM.splice, Int.reduceEq, Int.reduceNeg, Nat.reduceGT, Nat.reduceLT, Nat.reduceLeDiff, Nat.reduceEqDiff, ↓reduceIte, reduceCtorEq, Int.reduceToNat, Int.reduceLE, Int.reduceLT, Nat.reduceAdd, Nat.reduceMul, ff_6]) | (refine WK.condT ?_ ?_; focus (simp only [ev_tmp, ev_const, fset_apply, Nat.reduceEqDiff, ↓reduceIte, decide_true, decide_false, ff_6]; done)) | (refine WK.condF ?_ ?_; focus (simp only [ev_tmp, ev_const, fset_apply, Nat.reduceEqDiff, ↓reduceIte, decide_true, decide_false, ff_6]; done)))
  generalize hset H3 n3 (.cells [] 3 true) = H4 at *
  have kk4 := kk3.trans k4
  have hw4 := k4.wf hw3
  have hNo : N > o := K.oN
  have cw4 : CW (fun z => z < n2 ∨ z = n3) (n3 + 1) H4 S N o pt1 pv1 pr1 pg1 pe1 pc1 g co [] := cw.kpz k4 (fun z hz => by omega)
  refine WK.loop (fun k2 s => ∃ (j z : Nat) (u : List Int), (∀ x, x < n2 → s.H x = H2 x) ∧ n3 + 1 ≤ s.n ∧ CW (fun q => q < n2 ∨ q = z) s.n s.H S N o pt1 pv1 pr1 pg1 pe1 pc1 g co u ∧ WZ s.H z u ∧ n3 ≤ z ∧ z < s.n ∧ s.f 2 = .pointer (some ⟨n, 0, none⟩) ∧ s.f 5 = .pointer (some ⟨o, 0, none⟩) ∧ s.f 6 = .slice (some ⟨z, 0, none⟩) u.length u.length ∧ s.f 25 = .slice a w.length w.length ∧ s.f 26 = .int .i64 (w.length : Nat) ∧ s.f 27 = .int .i64 (j : Nat) ∧ j ≤ w.length ∧ u.length ≤ j ∧ (∀ t ∈ u, inI t) ∧ k2 = w.length - j) w.length ?_ ?_
  · exact ⟨0, n3, [], fun x hx => (k4.keep x (by omega)).trans (k3.keep x hx), Nat.le_refl _, cw4, ⟨[], b4, Nat.le_refl _, rfl⟩, Nat.le_refl _, Nat.lt_succ_self _, rfl, rfl, rfl, rfl, rfl, rfl, Nat.zero_le _, Nat.le_refl _, (fun t h => by cases h), rfl⟩
  rintro kq ⟨f, n5, H5⟩ ⟨j, z, u, keep5, hn5, cw5, wz5, hzn, hz5, f2, f5, f6, f25, f26, f27, hj, huj, hu, rfl⟩ ih
  simp only at f2 f5 f6 f25 f26 f27 keep5 hn5 cw5 wz5 hz5 ih
  have hw5 := cw5.1
  have keepn : ∀ x, x < n → H5 x = H x := fun x hx => (keep5 x (by omega)).trans (kk2.keep x hx)
  by_cases hlt : j < w.length
  · have ha5 : RA (Value.int .i64) H5 a w := fun hne => by
      obtain ⟨q, k, cs, ty, own, c1, c2, c3⟩ := ha.ra hne
      exact ⟨q, k, cs, ty, own, c1, (keepn q (Classical.byContradiction fun hc => by rw [hw q (by omega)] at c2; cases c2)).trans c2, c3⟩
    obtain ⟨zp, kp, dsp, tp, op, rfl, hzp, e3⟩ := ha5.at hlt
    have hwj : IntKind.wrap .i64 ((j : Int) + 1) = ((j + 1 : Nat) : Int) := by rw [wrap_in (by omega) (by omega)]; rfl
    have hin := hi _ (List.getElem_mem hlt)
    obtain ⟨cs, hz1, hz2, hz3⟩ := id wz5
    by_cases h0 : w[j] < 0
    · repeat (first | apply qqa | apply qqb | apply qqc | apply qqd | apply qqe | apply qqf | apply qqg | apply qqh | refine qqi rfl ?_ | ((first | (refine WK.rgn ?_ ?_; kernel_rfl) | refine AtCall.now ?_); simp (config := { maxSteps := 1000000 }) only [SS, qg0, qgb, qgl, qgi, qgx, qgz, qge, forall_const, tor, vun, tlen2, tpick, tbox, one, Go.AM.splice, Int.reduceEq, Int.reduceNeg, Nat.reduceGT, Nat.reduceLT, Nat.reduceLeDiff, Nat.reduceEqDiff, ↓reduceIte, reduceCtorEq, Int.reduceToNat, Int.reduceLE, Int.reduceLT, Nat.reduceAdd, Nat.reduceMul, f2, f5, f6, f25, f26, f27, hlt, hzp, e3, h0, ff_6]) | (refine WK.condT ?_ ?_; focus (simp only [ev_tmp, ev_const, fset_apply, Nat.reduceEqDiff, ↓reduceIte, decide_true, decide_false, f2, f5, f6, f25, f26, f27, hlt, hzp, e3, h0, ff_6]; done)) | (refine WK.condF ?_ ?_; focus (simp only [ev_tmp, ev_const, fset_apply, Nat.reduceEqDiff, ↓reduceIte, decide_true, decide_false, f2, f5, f6, f25, f26, f27, hlt, hzp, e3, h0, ff_6]; done)))
      refine AtCall.byX (pop_cw K cw5 (by omega)) ?_
      rintro v n6 H6 kx6 ⟨rfl, zk6, cw6⟩
      have hn6 := kx6.le
      have hz6 := zk6.2 _ _ _ _ (.inr rfl) hz1
      have keep6 : ∀ x, x < n2 → H6 x = H2 x := fun x hx => (kx6.keep x (by omega) (by omega)).trans (keep5 x hx)
      have hsz : isz Try.prog 3 = some 1 := by kernel_rfl
      by_cases hu0 : u = []
      · subst hu0
        have hs1 : IntKind.wrap .i64 (((0 : Nat) : Int) - 1) = -1 := rfl
        have h00 : ((0 : Int) < ((0 : Nat) : Int)) = False := by simp
        simp (config := { maxSteps := 1000000 }) only [SS, qg0, qgb, qgl, qgi, qgx, qgz, qge, forall_const, tor, vun, tlen2, tpick, tbox, one, Go.AM.splice, Int.reduceEq, Int.reduceNeg, Nat.reduceGT, Nat.reduceLT, Nat.reduceLeDiff, Nat.reduceEqDiff, ↓reduceIte, reduceCtorEq, Int.reduceToNat, Int.reduceLE, Int.reduceLT, Nat.reduceAdd, Nat.reduceMul, f6, List.length_nil, h00, ne_eq, not_true_eq_false, decide_false, ff_6]
        repeat (first | apply qqa | apply qqb | apply qqc | apply qqd | apply qqe | apply qqf | apply qqg | apply qqh | refine qqi rfl ?_ | ((first | (refine WK.rgn ?_ ?_; kernel_rfl) | refine AtCall.now ?_); simp (config := { maxSteps := 1000000 }) only [SS, qg0, qgb, qgl, qgi, qgx, qgz, qge, forall_const, tor, vun, tlen2, tpick, tbox, one, Go.AM.splice, Int.reduceEq, Int.reduceNeg, Nat.reduceGT, Nat.reduceLT, Nat.reduceLeDiff, Nat.reduceEqDiff, ↓reduceIte, reduceCtorEq, Int.reduceToNat, Int.reduceLE, Int.reduceLT, Nat.reduceAdd, Nat.reduceMul, f2, f5, f6, f25, f26, f27, List.length_nil, hs1, aop_max, tmm, hz6, hsz, Nat.sub_self, Nat.zero_le, and_self, implies_true, Nat.add_zero, Nat.zero_mul, hwj, ff_6]) | (refine WK.condT ?_ ?_; focus (simp only [ev_tmp, ev_const, fset_apply, Nat.reduceEqDiff, ↓reduceIte, decide_true, decide_false, f2, f5, f6, f25, f26, f27, List.length_nil, hs1, aop_max, tmm, hz6, hsz, Nat.sub_self, Nat.zero_le, and_self, implies_true, Nat.add_zero, Nat.zero_mul, hwj, ff_6]; done)) | (refine WK.condF ?_ ?_; focus (simp only [ev_tmp, ev_const, fset_apply, Nat.reduceEqDiff, ↓reduceIte, decide_true, decide_false, f2, f5, f6, f25, f26, f27, List.length_nil, hs1, aop_max, tmm, hz6, hsz, Nat.sub_self, Nat.zero_le, and_self, implies_true, Nat.add_zero, Nat.zero_mul, hwj, ff_6]; done)))
        refine ih (w.length - (j + 1)) (by omega) _ ?_
        refine ⟨j + 1, z, [], keep6, show n3 + 1 ≤ n6 by omega, cw6, ⟨cs, hz6, hz2, hz3⟩, hzn, show z < n6 by omega, f2, f5, rfl, f25, f26, rfl, hlt, by simp, hu, rfl⟩
      · have hl0 : 0 < u.length := List.length_pos_iff.2 hu0
        have hs1 : IntKind.wrap .i64 ((u.length : Int) - 1) = ((u.length - 1 : Nat) : Int) := by rw [wrap_in (by omega) (by omega)]; omega
        have hdu : decide (u ≠ []) = true := by simp [hu0]
        have hl1 : ((0 : Int) < ((u.length : Nat) : Int)) = True := eq_true (by omega)
        have hmax : (if (0 : Int) < ((u.length - 1 : Nat) : Int) then ((u.length - 1 : Nat) : Int) else 0) = ((u.length - 1 : Nat) : Int) := by split <;> omega
        have hdl : u.dropLast.length = u.length - 1 := List.length_dropLast
        rw [hdu]
        simp (config := { maxSteps := 1000000 }) only [SS, qg0, qgb, qgl, qgi, qgx, qgz, qge, forall_const, tor, vun, tlen2, tpick, tbox, one, Go.AM.splice, Int.reduceEq, Int.reduceNeg, Nat.reduceGT, Nat.reduceLT, Nat.reduceLeDiff, Nat.reduceEqDiff, ↓reduceIte, reduceCtorEq, Int.reduceToNat, Int.reduceLE, Int.reduceLT, Nat.reduceAdd, Nat.reduceMul, f6, hl1, ff_6]
        repeat (first | apply qqa | apply qqb | apply qqc | apply qqd | apply qqe | apply qqf | apply qqg | apply qqh | refine qqi rfl ?_ | ((first | (refine WK.rgn ?_ ?_; kernel_rfl) | refine AtCall.now ?_); simp (config := { maxSteps := 1000000 }) only [SS, qg0, qgb, qgl, qgi, qgx, qgz, qge, forall_const, tor, vun, tlen2, tpick, tbox, one, Go.AM.splice, Int.reduceEq, Int.reduceNeg, Nat.reduceGT, Nat.reduceLT, Nat.reduceLeDiff, Nat.reduceEqDiff, ↓reduceIte, reduceCtorEq, Int.reduceToNat, Int.reduceLE, Int.reduceLT, Nat.reduceAdd, Nat.reduceMul, f2, f5, f6, f25, f26, f27, hs1, aop_max, tmm, hmax, hz6, hsz, Nat.sub_le, Nat.sub_zero, and_self, implies_true, Nat.add_zero, Nat.zero_mul, Nat.zero_le, hwj, ff_6]) | (refine WK.condT ?_ ?_; focus (simp only [ev_tmp, ev_const, fset_apply, Nat.reduceEqDiff, ↓reduceIte, decide_true, decide_false, f2, f5, f6, f25, f26, f27, hs1, aop_max, tmm, hmax, hz6, hsz, Nat.sub_le, Nat.sub_zero, and_self, implies_true, Nat.add_zero, Nat.zero_mul, Nat.zero_le, hwj, ff_6]; done)) | (refine WK.condF ?_ ?_; focus (simp only [ev_tmp, ev_const, fset_apply, Nat.reduceEqDiff, ↓reduceIte, decide_true, decide_false, f2, f5, f6, f25, f26, f27, hs1, aop_max, tmm, hmax, hz6, hsz, Nat.sub_le, Nat.sub_zero, and_self, implies_true, Nat.add_zero, Nat.zero_mul, Nat.zero_le, hwj, ff_6]; done)))
        refine ih (w.length - (j + 1)) (by omega) _ ?_
        refine ⟨j + 1, z, u.dropLast, keep6, show n3 + 1 ≤ n6 by omega, cw6, ⟨cs, hz6, by omega, ?_⟩, hzn, show z < n6 by omega, f2, f5, ?_, f25, f26, rfl, hlt, by omega, fun t ht => hu t (by rw [List.dropLast_eq_take] at ht; exact List.mem_of_mem_take ht), rfl⟩
        · rw [hdl, List.dropLast_eq_take, List.map_take, ← hz3, List.take_take]
          congr 1
          omega
        · rw [hdl]; rfl
    · repeat (first | apply qqa | apply qqb | apply qqc | apply qqd | apply qqe | apply qqf | apply qqg | apply qqh | refine qqi rfl ?_ | ((first | (refine WK.rgn ?_ ?_; kernel_rfl) | refine AtCall.now ?_); simp (config := { maxSteps := 1000000 }) only [SS, qg0, qgb, qgl, qgi, qgx, qgz, qge, forall_const, tor, vun, tlen2, tpick, tbox, one, Go.AM.splice, Int.reduceEq, Int.reduceNeg, Nat.reduceGT, Nat.reduceLT, Nat.reduceLeDiff, Nat.reduceEqDiff, ↓reduceIte, reduceCtorEq, Int.reduceToNat, Int.reduceLE, Int.reduceLT, Nat.reduceAdd, Nat.reduceMul, f2, f5, f6, f25, f26, f27, hlt, hzp, e3, h0, ff_6]) | (refine WK.condT ?_ ?_; focus (simp only [ev_tmp, ev_const, fset_apply, Nat.reduceEqDiff, ↓reduceIte, decide_true, decide_false, f2, f5, f6, f25, f26, f27, hlt, hzp, e3, h0, ff_6]; done)) | (refine WK.condF ?_ ?_; focus (simp only [ev_tmp, ev_const, fset_apply, Nat.reduceEqDiff, ↓reduceIte, decide_true, decide_false, f2, f5, f6, f25, f26, f27, hlt, hzp, e3, h0, ff_6]; done)))
      refine AtCall.byX (push_cw (t := w[j]) K cw5 (by omega) hin (fun q hq => by omega)) ?_
      rintro v n6 H6 kx6 ⟨rfl, zk6, cw6⟩
      have hn6 := kx6.le
      have hz6 := zk6.2 _ _ _ _ (.inr rfl) hz1
      have keep6 : ∀ x, x < n2 → H6 x = H2 x := fun x hx => (kx6.keep x (by omega) (by omega)).trans (keep5 x hx)
      cases hp : (runS g (u ++ [w[j]])).isSome with
      | false =>
        rw [hp] at cw6
        simp (config := { maxSteps := 1000000 }) only [SS, qg0, qgb, qgl, qgi, qgx, qgz, qge, forall_const, tor, vun, tlen2, tpick, tbox, one, Go.AM.splice, Int.reduceEq, Int.reduceNeg, Nat.reduceGT, Nat.reduceLT, Nat.reduceLeDiff, Nat.reduceEqDiff, ↓reduceIte, reduceCtorEq, Int.reduceToNat, Int.reduceLE, Int.reduceLT, Nat.reduceAdd, Nat.reduceMul, ff_6]
        repeat (first | apply qqa | apply qqb | apply qqc | apply qqd | apply qqe | apply qqf | apply qqg | apply qqh | refine qqi rfl ?_ | ((first | (refine WK.rgn ?_ ?_; kernel_rfl) | refine AtCall.now ?_); simp (config := { maxSteps := 1000000 }) only [SS, qg0, qgb, qgl, qgi, qgx, qgz, qge, forall_const, tor, vun, tlen2, tpick, tbox, one, Go.AM.splice, Int.reduceEq, Int.reduceNeg, Nat.reduceGT, Nat.reduceLT, Nat.reduceLeDiff, Nat.reduceEqDiff, ↓reduceIte, reduceCtorEq, Int.reduceToNat, Int.reduceLE, Int.reduceLT, Nat.reduceAdd, Nat.reduceMul, f2, f5, f6, f25, f26, f27, hwj, ff_6]) | (refine WK.condT ?_ ?_; focus (simp only [ev_tmp, ev_const, fset_apply, Nat.reduceEqDiff, ↓reduceIte, decide_true, decide_false, f2, f5, f6, f25, f26, f27, hwj, ff_6]; done)) | (refine WK.condF ?_ ?_; focus (simp only [ev_tmp, ev_const, fset_apply, Nat.reduceEqDiff, ↓reduceIte, decide_true, decide_false, f2, f5, f6, f25, f26, f27, hwj, ff_6]; done)))
        refine ih (w.length - (j + 1)) (by omega) _ ?_
        refine ⟨j + 1, z, u, keep6, show n3 + 1 ≤ n6 by omega, by simpa using cw6, ⟨cs, hz6, hz2, hz3⟩, hzn, show z < n6 by omega, f2, f5, f6, f25, f26, rfl, hlt, by omega, hu, rfl⟩
      | true =>
        rw [hp, if_pos rfl] at cw6
        have hw6 := cw6.1
        generalize w[j] = t at *
        have u1 : vcells (Value.int .i64 t) = [Value.int .i64 t] := rfl
        have u2 : ([Value.int .i64 t] : List Value).length = 1 := rfl
        have u3 : ([Value.int .i64 t] : List Value).all one = true := rfl
        have u4 : Go.AM.splice [Value.int IntKind.i64 (Int.ofNat 0)] 0 [Value.int .i64 t] = [Value.int .i64 t] := rfl
        have u5 : ([Value.int .i64 t] : List Value).take 1 = [Value.int .i64 t] := rfl
        have kA := Kp.new n6 H6 (.cells [.int .i64 t] 3 true)
        have bA := hset_at H6 n6 (.cells [.int .i64 t] 3 true)
        have zA := (kA.keep z (by omega)).trans hz6
        have cwA := cw6.kpz (Z' := fun q => q < n2 ∨ q = z ∨ q = n6) kA (fun q hq => by omega)
        generalize hA : hset H6 n6 (.cells [.int .i64 t] 3 true) = HA at *
        obtain ⟨Z2, hZ2, back⟩ := cwA.other (X := fun q => q = z) K ((Kx.refl _ (n6 + 1) HA).set (x := z) .dead (.inl rfl) (by omega)) (fun q hq => by omega)
        have kA1 := (Kx.refl (fun q => q = z) (n6 + 1) HA).set (x := z) .dead (.inl rfl) (by omega)
        have cwA1 := back ⟨.set fun c t o e => (by rw [zA] at e; cases e), fun q cs ty own hq e => (hset_ne _ _ _ (by rintro rfl; exact (hZ2 _ hq).2.2 (.inr (.inl rfl)))).trans e⟩
        generalize hA1 : hset HA z .dead = HA1 at *
        have kB := Kp.new (n6 + 1) HA1 (.cells (u.map (.int .i64) ++ [.int .i64 t]) 3 true)
        have bB := hset_at HA1 (n6 + 1) (.cells (u.map (.int .i64) ++ [.int .i64 t]) 3 true)
        have cwB := cwA1.kpz (Z' := fun q => q < n2 ∨ q = n6 + 1) kB (fun q hq => by omega)
        have z1 : u.length + 1 ≤ bigN := by unfold bigN; omega
        have z2 : [n6].contains z = false := by simp; omega
        simp (config := { maxSteps := 1000000 }) only [SS, qg0, qgb, qgl, qgi, qgx, qgz, qge, forall_const, tor, vun, tlen2, tpick, tbox, one, Go.AM.splice, Int.reduceEq, Int.reduceNeg, Nat.reduceGT, Nat.reduceLT, Nat.reduceLeDiff, Nat.reduceEqDiff, ↓reduceIte, reduceCtorEq, Int.reduceToNat, Int.reduceLE, Int.reduceLT, Nat.reduceAdd, Nat.reduceMul, ff_6]
        repeat (first | apply qqa | apply qqb | apply qqc | apply qqd | apply qqe | apply qqf | apply qqg | apply qqh | refine qqi rfl ?_ | ((first | (refine WK.rgn ?_ ?_; kernel_rfl) | refine AtCall.now ?_); simp (config := { maxSteps := 1000000 }) only [SS, qg0, qgb, qgl, qgi, qgx, qgz, qge, forall_const, tor, vun, tlen2, tpick, tbox, one, Go.AM.splice, Int.reduceEq, Int.reduceNeg, Nat.reduceGT, Nat.reduceLT, Nat.reduceLeDiff, Nat.reduceEqDiff, ↓reduceIte, reduceCtorEq, Int.reduceToNat, Int.reduceLE, Int.reduceLT, Nat.reduceAdd, Nat.reduceMul, f2, f5, f6, f25, f26, f27, hA, bA, u1, u2, u3, u4, u5, hwj, zA, z1, z2, hz2, hz3, hA1, List.drop_zero, Nat.zero_add, Nat.mul_one, ff_6]) | (refine WK.condT ?_ ?_; focus (simp only [ev_tmp, ev_const, fset_apply, Nat.reduceEqDiff, ↓reduceIte, decide_true, decide_false, f2, f5, f6, f25, f26, f27, hA, bA, u1, u2, u3, u4, u5, hwj, zA, z1, z2, hz2, hz3, hA1, List.drop_zero, Nat.zero_add, Nat.mul_one, ff_6]; done)) | (refine WK.condF ?_ ?_; focus (simp only [ev_tmp, ev_const, fset_apply, Nat.reduceEqDiff, ↓reduceIte, decide_true, decide_false, f2, f5, f6, f25, f26, f27, hA, bA, u1, u2, u3, u4, u5, hwj, zA, z1, z2, hz2, hz3, hA1, List.drop_zero, Nat.zero_add, Nat.mul_one, ff_6]; done)))
        refine ih (w.length - (j + 1)) (by omega) _ ?_
        refine ⟨j + 1, n6 + 1, u ++ [t], fun x hx => ?_, show n3 + 1 ≤ n6 + 1 + 1 by omega, cwB, ⟨_, bB, by simp, by rw [List.take_of_length_le (by simp)]; simp⟩, by omega, show n6 + 1 < n6 + 1 + 1 by omega, f2, f5, ?_, f25, f26, rfl, hlt, by simp; omega, fun q hq => ?_, rfl⟩
        · exact (kB.keep x (by omega)).trans ((kA1.keep x (by omega) (by omega)).trans ((kA.keep x (by omega)).trans (keep6 x hx)))
        · rw [List.length_append]; rfl
        · rcases List.mem_append.1 hq with h | h
          · exact hu q h
          · have : q = t := by simpa using h
            subst this; exact hin
  · have hul : u.length ≤ 30 := by omega
    have hb5 : H5 n = .cells (gcells pt pv pr g) 25 true := (keep5 n (by omega)).trans hb2
    have hwo5 : ∀ x, x < n → H5 x = H x := keepn
    have hg5 : RG H5 (.agg (gcells pt pv pr g).toArray) g := hg0.mono hw ⟨by omega, hwo5, fun _ => hw5⟩
    have hro5 : RRO H5 pr g.rules := hro0.sub (fun x hx => hwo5 x (Classical.byContradiction fun hc => hx (hw x (by omega))))
    repeat (first | apply qqa | apply qqb | apply qqc | apply qqd | apply qqe | apply qqf | apply qqg | apply qqh | refine qqi rfl ?_ | ((first | (refine WK.rgn ?_ ?_; kernel_rfl) | refine AtCall.now ?_); simp (config := { maxSteps := 1000000 }) only [SS, qg0, qgb, qgl, qgi, qgx, qgz, qge, forall_const, tor, vun, tlen2, tpick, tbox, one, Go.AM.splice, Int.reduceEq, Int.reduceNeg, Nat.reduceGT, Nat.reduceLT, Nat.reduceLeDiff, Nat.reduceEqDiff, ↓reduceIte, reduceCtorEq, Int.reduceToNat, Int.reduceLE, Int.reduceLT, Nat.reduceAdd, Nat.reduceMul, f2, f5, f6, f25, f26, f27, hlt, hb5, gc_len, gc_all, ff_6]) | (refine WK.condT ?_ ?_; focus (simp only [ev_tmp, ev_const, fset_apply, Nat.reduceEqDiff, ↓reduceIte, decide_true, decide_false, f2, f5, f6, f25, f26, f27, hlt, hb5, gc_len, gc_all, ff_6]; done)) | (refine WK.condF ?_ ?_; focus (simp only [ev_tmp, ev_const, fset_apply, Nat.reduceEqDiff, ↓reduceIte, decide_true, decide_false, f2, f5, f6, f25, f26, f27, hlt, hb5, gc_len, gc_all, ff_6]; done)))
    refine AtCall.by (new_cw (H0 := H) hw5 hg5 wg ok hf hro5) ?_
    rintro v n6 H6 k6 ⟨S2, N2, o2, pt2, pv2, pr2, pg2, pe2, pc2, co2, rfl, K2, hno2, dw⟩
    have hn6 := k6.le
    have hrun := cw5.some
    have hN2 : n5 < N2 := by have := K2.oN; omega
    have hNn : N ≤ n5 := cw5.2.2.1
    simp (config := { maxSteps := 1000000 }) only [SS, qg0, qgb, qgl, qgi, qgx, qgz, qge, forall_const, tor, vun, tlen2, tpick, tbox, one, Go.AM.splice, Int.reduceEq, Int.reduceNeg, Nat.reduceGT, Nat.reduceLT, Nat.reduceLeDiff, Nat.reduceEqDiff, ↓reduceIte, reduceCtorEq, Int.reduceToNat, Int.reduceLE, Int.reduceLT, Nat.reduceAdd, Nat.reduceMul, f2, f5, f6, ff_6]
    repeat (first | apply qqa | apply qqb | apply qqc | apply qqd | apply qqe | apply qqf | apply qqg | apply qqh | refine qqi rfl ?_ | ((first | (refine WK.rgn ?_ ?_; kernel_rfl) | refine AtCall.now ?_); simp (config := { maxSteps := 1000000 }) only [SS, qg0, qgb, qgl, qgi, qgx, qgz, qge, forall_const, tor, vun, tlen2, tpick, tbox, one, Go.AM.splice, Int.reduceEq, Int.reduceNeg, Nat.reduceGT, Nat.reduceLT, Nat.reduceLeDiff, Nat.reduceEqDiff, ↓reduceIte, reduceCtorEq, Int.reduceToNat, Int.reduceLE, Int.reduceLT, Nat.reduceAdd, Nat.reduceMul, f2, f5, f6, ff_6]) | (refine WK.condT ?_ ?_; focus (simp only [ev_tmp, ev_const, fset_apply, Nat.reduceEqDiff, ↓reduceIte, decide_true, decide_false, f2, f5, f6, ff_6]; done)) | (refine WK.condF ?_ ?_; focus (simp only [ev_tmp, ev_const, fset_apply, Nat.reduceEqDiff, ↓reduceIte, decide_true, decide_false, f2, f5, f6, ff_6]; done)))
    refine WK.loop (fun k2 s => ∃ (i : Nat), Kx (fun z => z = o2 ∨ N2 ≤ z) n6 H6 s.n s.H ∧ ZK (fun q => q < n5) H6 s.H ∧ CW (fun q => q < n5) s.n s.H S2 N2 o2 pt2 pv2 pr2 pg2 pe2 pc2 g co2 (u.take i) ∧ s.f 5 = .pointer (some ⟨o, 0, none⟩) ∧ s.f 9 = .pointer (some ⟨o2, 0, none⟩) ∧ s.f 6 = .slice (some ⟨z, 0, none⟩) u.length u.length ∧ s.f 55 = .slice (some ⟨z, 0, none⟩) u.length u.length ∧ s.f 56 = .int .i64 (u.length : Nat) ∧ s.f 57 = .int .i64 (i : Nat) ∧ i ≤ u.length ∧ k2 = u.length - i) u.length ?_ ?_
    · exact ⟨0, .refl _ _ _, ⟨.refl _, fun _ _ _ _ _ h => h⟩, dw, f5, rfl, f6, rfl, rfl, rfl, Nat.zero_le _, rfl⟩
    clear f2 f5 f6 f25 f26 f27 ih
    rintro kq ⟨f, n7, H7⟩ ⟨i, kx7, zk7, dw7, f5, f9, f6, f55, f56, f57, hiu, rfl⟩ ih
    simp only at f5 f9 f6 f55 f56 f57 kx7 zk7 dw7 ih
    have hn7 := kx7.le
    have wz6 := wz5.zk (Z := fun q => q = z) (ZK.kp k6 hw5) rfl
    have wz7 := wz6.zk zk7 (show z < n5 by omega)
    have keep7 : ∀ x, x < n → H7 x = H x := fun x hx => (kx7.keep x (by omega) (by omega)).trans ((k6.keep x (by omega)).trans (keepn x hx))
    by_cases hlt2 : i < u.length
    · obtain ⟨cs, hz1, hz2, hz3⟩ := id wz7
      have hci : cs[i]? = some (.int .i64 u[i]) := by
        have := congrArg (fun l : List Value => l[i]?) hz3
        simp only [List.getElem?_take, hlt2, if_true, List.getElem?_map, List.getElem?_eq_getElem hlt2, Option.map_some] at this
        exact this
      have hwi : IntKind.wrap .i64 ((i : Int) + 1) = ((i + 1 : Nat) : Int) := by rw [wrap_in (by omega) (by omega)]; rfl
      have hti : u.take (i + 1) = u.take i ++ [u[i]] := List.take_succ_eq_append_getElem hlt2
      have hrt := runS_take hrun (i + 1)
      rw [hti] at hrt
      repeat (first | apply qqa | apply qqb | apply qqc | apply qqd | apply qqe | apply qqf | apply qqg | apply qqh | refine qqi rfl ?_ | ((first | (refine WK.rgn ?_ ?_; kernel_rfl) | refine AtCall.now ?_); simp (config := { maxSteps := 1000000 }) only [SS, qg0, qgb, qgl, qgi, qgx, qgz, qge, forall_const, tor, vun, tlen2, tpick, tbox, one, Go.AM.splice, Int.reduceEq, Int.reduceNeg, Nat.reduceGT, Nat.reduceLT, Nat.reduceLeDiff, Nat.reduceEqDiff, ↓reduceIte, reduceCtorEq, Int.reduceToNat, Int.reduceLE, Int.reduceLT, Nat.reduceAdd, Nat.reduceMul, f5, f9, f6, f55, f56, f57, hlt2, hz1, hci, Nat.zero_add, ff_6]) | (refine WK.condT ?_ ?_; focus (simp only [ev_tmp, ev_const, fset_apply, Nat.reduceEqDiff, ↓reduceIte, decide_true, decide_false, f5, f9, f6, f55, f56, f57, hlt2, hz1, hci, Nat.zero_add, ff_6]; done)) | (refine WK.condF ?_ ?_; focus (simp only [ev_tmp, ev_const, fset_apply, Nat.reduceEqDiff, ↓reduceIte, decide_true, decide_false, f5, f9, f6, f55, f56, f57, hlt2, hz1, hci, Nat.zero_add, ff_6]; done)))
      refine AtCall.byX (push_cw (t := u[i]) K2 dw7 (by rw [List.length_take]; omega) (hu _ (List.getElem_mem hlt2)) (fun q hq => by omega)) ?_
      rintro v n8 H8 kx8 ⟨rfl, zk8, dw8⟩
      have hn8 := kx8.le
      rw [hrt, if_pos rfl, ← hti] at dw8
      rw [hrt]
      simp (config := { maxSteps := 1000000 }) only [SS, qg0, qgb, qgl, qgi, qgx, qgz, qge, forall_const, tor, vun, tlen2, tpick, tbox, one, Go.AM.splice, Int.reduceEq, Int.reduceNeg, Nat.reduceGT, Nat.reduceLT, Nat.reduceLeDiff, Nat.reduceEqDiff, ↓reduceIte, reduceCtorEq, Int.reduceToNat, Int.reduceLE, Int.reduceLT, Nat.reduceAdd, Nat.reduceMul, ff_6]
      repeat (first | apply qqa | apply qqb | apply qqc | apply qqd | apply qqe | apply qqf | apply qqg | apply qqh | refine qqi rfl ?_ | ((first | (refine WK.rgn ?_ ?_; kernel_rfl) | refine AtCall.now ?_); simp (config := { maxSteps := 1000000 }) only [SS, qg0, qgb, qgl, qgi, qgx, qgz, qge, forall_const, tor, vun, tlen2, tpick, tbox, one, Go.AM.splice, Int.reduceEq, Int.reduceNeg, Nat.reduceGT, Nat.reduceLT, Nat.reduceLeDiff, Nat.reduceEqDiff, ↓reduceIte, reduceCtorEq, Int.reduceToNat, Int.reduceLE, Int.reduceLT, Nat.reduceAdd, Nat.reduceMul, f5, f9, f6, f55, f56, f57, hwi, ff_6]) | (refine WK.condT ?_ ?_; focus (simp only [ev_tmp, ev_const, fset_apply, Nat.reduceEqDiff, ↓reduceIte, decide_true, decide_false, f5, f9, f6, f55, f56, f57, hwi, ff_6]; done)) | (refine WK.condF ?_ ?_; focus (simp only [ev_tmp, ev_const, fset_apply, Nat.reduceEqDiff, ↓reduceIte, decide_true, decide_false, f5, f9, f6, f55, f56, f57, hwi, ff_6]; done)))
      refine ih (u.length - (i + 1)) (by omega) _ ?_
      exact ⟨i + 1, kx7.trans kx8, zk7.trans zk8, dw8, f5, f9, f6, f55, f56, rfl, hlt2, rfl⟩
    · have hie : i = u.length := by omega
      rw [hie, List.take_length] at dw7
      obtain ⟨Z2, hZ2, back⟩ := cw5.other (X := fun z => z = o2 ∨ N2 ≤ z) K (k6.kx.trans kx7) (fun q hq => by omega)
      have cw7 := back ((ZK.kp k6 hw5).trans ⟨zk7.1, fun q cs ty own hq e => zk7.2 q cs ty own (hZ2 q hq).1 e⟩)
      have hco : co = co2 := by
        obtain ⟨b1, h1⟩ := K.cost
        obtain ⟨b2, h2⟩ := K2.cost
        exact cost_same h1 h2 K.st.coL K2.st.coL
      subst hco
      have hw7 := dw7.1
      repeat (first | apply qqa | apply qqb | apply qqc | apply qqd | apply qqe | apply qqf | apply qqg | apply qqh | refine qqi rfl ?_ | ((first | (refine WK.rgn ?_ ?_; kernel_rfl) | refine AtCall.now ?_); simp (config := { maxSteps := 1000000 }) only [SS, qg0, qgb, qgl, qgi, qgx, qgz, qge, forall_const, tor, vun, tlen2, tpick, tbox, one, Go.AM.splice, Int.reduceEq, Int.reduceNeg, Nat.reduceGT, Nat.reduceLT, Nat.reduceLeDiff, Nat.reduceEqDiff, ↓reduceIte, reduceCtorEq, Int.reduceToNat, Int.reduceLE, Int.reduceLT, Nat.reduceAdd, Nat.reduceMul, f5, f9, f6, f55, f56, f57, hlt2, ff_6]) | (refine WK.condT ?_ ?_; focus (simp only [ev_tmp, ev_const, fset_apply, Nat.reduceEqDiff, ↓reduceIte, decide_true, decide_false, f5, f9, f6, f55, f56, f57, hlt2, ff_6]; done)) | (refine WK.condF ?_ ?_; focus (simp only [ev_tmp, ev_const, fset_apply, Nat.reduceEqDiff, ↓reduceIte, decide_true, decide_false, f5, f9, f6, f55, f56, f57, hlt2, ff_6]; done)))
      refine AtCall.by (word_cw cw7 (by omega)) ?_
      rintro v n8 H8 k8 hv8
      obtain ⟨q8, rfl, hr8⟩ := hv8.rs
      have wz8 := wz7.zk (Z := fun q => q = z) (ZK.kp k8 hw7) rfl
      have hss : same u u = true := by unfold same; rw [same_self]; rfl
      simp (config := { maxSteps := 1000000 }) only [SS, qg0, qgb, qgl, qgi, qgx, qgz, qge, forall_const, tor, vun, tlen2, tpick, tbox, one, Go.AM.splice, Int.reduceEq, Int.reduceNeg, Nat.reduceGT, Nat.reduceLT, Nat.reduceLeDiff, Nat.reduceEqDiff, ↓reduceIte, reduceCtorEq, Int.reduceToNat, Int.reduceLE, Int.reduceLT, Nat.reduceAdd, Nat.reduceMul, f6, ff_6]
      refine AtCall.by (same_gives hr8.ra wz8.rs.ra (by unfold maxL; omega) (by unfold maxL; omega)) ?_
      rintro v n9 H9 k9 ⟨rfl, rfl, rfl⟩
      rw [hss]
      have kw8 := k8.wf hw7
      simp (config := { maxSteps := 1000000 }) only [SS, qg0, qgb, qgl, qgi, qgx, qgz, qge, forall_const, tor, vun, tlen2, tpick, tbox, one, Go.AM.splice, Int.reduceEq, Int.reduceNeg, Nat.reduceGT, Nat.reduceLT, Nat.reduceLeDiff, Nat.reduceEqDiff, ↓reduceIte, reduceCtorEq, Int.reduceToNat, Int.reduceLE, Int.reduceLT, Nat.reduceAdd, Nat.reduceMul, f5, ff_6]
      refine AtCall.by (acc_cw K (cw7.kp k8) (by omega)) ?_
      rintro v n10 H10 k10 rfl
      simp (config := { maxSteps := 1000000 }) only [SS, qg0, qgb, qgl, qgi, qgx, qgz, qge, forall_const, tor, vun, tlen2, tpick, tbox, one, Go.AM.splice, Int.reduceEq, Int.reduceNeg, Nat.reduceGT, Nat.reduceLT, Nat.reduceLeDiff, Nat.reduceEqDiff, ↓reduceIte, reduceCtorEq, Int.reduceToNat, Int.reduceLE, Int.reduceLT, Nat.reduceAdd, Nat.reduceMul, f9, ff_6]
      refine AtCall.by (acc_cw K2 ((dw7.kp k8).kp k10) (by omega)) ?_
      rintro v n11 H11 k11 rfl
      simp (config := { maxSteps := 1000000 }) only [SS, qg0, qgb, qgl, qgi, qgx, qgz, qge, forall_const, tor, vun, tlen2, tpick, tbox, one, Go.AM.splice, Int.reduceEq, Int.reduceNeg, Nat.reduceGT, Nat.reduceLT, Nat.reduceLeDiff, Nat.reduceEqDiff, ↓reduceIte, reduceCtorEq, Int.reduceToNat, Int.reduceLE, Int.reduceLT, Nat.reduceAdd, Nat.reduceMul, f5, beq_self_eq_true, ff_6]
      refine AtCall.by (next_cw K (((cw7.kp k8).kp k10).kp k11) (by omega)) ?_
      rintro v n12 H12 k12 hv12
      obtain ⟨q12, rfl, hr12⟩ := hv12.rs
      have kw12 := k12.wf (k11.wf (k10.wf kw8))
      simp (config := { maxSteps := 1000000 }) only [SS, qg0, qgb, qgl, qgi, qgx, qgz, qge, forall_const, tor, vun, tlen2, tpick, tbox, one, Go.AM.splice, Int.reduceEq, Int.reduceNeg, Nat.reduceGT, Nat.reduceLT, Nat.reduceLeDiff, Nat.reduceEqDiff, ↓reduceIte, reduceCtorEq, Int.reduceToNat, Int.reduceLE, Int.reduceLT, Nat.reduceAdd, Nat.reduceMul, f9, ff_6]
      refine AtCall.by (next_cw K2 ((((dw7.kp k8).kp k10).kp k11).kp k12) (by omega)) ?_
      rintro v n13 H13 k13 hv13
      obtain ⟨q13, rfl, hr13⟩ := hv13.rs
      have hnx : (nextR g u).length ≤ maxL := by
        obtain ⟨sets, hsets⟩ := Option.isSome_iff_exists.1 hrun
        have := nodup_int_len _ _ (nextC_ok K.hts (lastS sets) fun x hx => ((lastS_ok (runS_ok u sets hsets).1).ok x hx).1).1 (nextC_ok K.hts (lastS sets) fun x hx => ((lastS_ok (runS_ok u sets hsets).1).ok x hx).1).2
        have hpl := (isort_perm (nextC g (lastS sets))).length_eq
        have := K.htl
        unfold nextR nextL
        rw [hsets, Option.getD_some, hpl]
        unfold maxL
        omega
      have hsn : same (nextR g u) (nextR g u) = true := by unfold same; rw [same_self]; rfl
      simp (config := { maxSteps := 1000000 }) only [SS, qg0, qgb, qgl, qgi, qgx, qgz, qge, forall_const, tor, vun, tlen2, tpick, tbox, one, Go.AM.splice, Int.reduceEq, Int.reduceNeg, Nat.reduceGT, Nat.reduceLT, Nat.reduceLeDiff, Nat.reduceEqDiff, ↓reduceIte, reduceCtorEq, Int.reduceToNat, Int.reduceLE, Int.reduceLT, Nat.reduceAdd, Nat.reduceMul, ff_6]
      refine AtCall.by (same_gives (hr12.mono kw12 k13).ra hr13.ra hnx hnx) ?_
      rintro v n14 H14 k14 ⟨rfl, rfl, rfl⟩
      rw [hsn]
      have cwz := ((((cw7.kp k8).kp k10).kp k11).kp k12).kp k13
      have dwz := ((((dw7.kp k8).kp k10).kp k11).kp k12).kp k13
      simp (config := { maxSteps := 1000000 }) only [SS, qg0, qgb, qgl, qgi, qgx, qgz, qge, forall_const, tor, vun, tlen2, tpick, tbox, one, Go.AM.splice, Int.reduceEq, Int.reduceNeg, Nat.reduceGT, Nat.reduceLT, Nat.reduceLeDiff, Nat.reduceEqDiff, ↓reduceIte, reduceCtorEq, Int.reduceToNat, Int.reduceLE, Int.reduceLT, Nat.reduceAdd, Nat.reduceMul, f5, ff_6]
      refine AtCall.by (short_cw K cwz (by omega)) ?_
      rintro v n15 H15 k15 rfl
      simp (config := { maxSteps := 1000000 }) only [SS, qg0, qgb, qgl, qgi, qgx, qgz, qge, forall_const, tor, vun, tlen2, tpick, tbox, one, Go.AM.splice, Int.reduceEq, Int.reduceNeg, Nat.reduceGT, Nat.reduceLT, Nat.reduceLeDiff, Nat.reduceEqDiff, ↓reduceIte, reduceCtorEq, Int.reduceToNat, Int.reduceLE, Int.reduceLT, Nat.reduceAdd, Nat.reduceMul, f9, ff_6]
      refine AtCall.by (short_cw K2 (dwz.kp k15) (by omega)) ?_
      rintro v n16 H16 k16 rfl
      have e1 : (((shortR g (cF co) u : Nat) : Int) = ((shortR g (cF co) u : Nat) : Int)) = True := eq_true rfl
      simp (config := { maxSteps := 1000000 }) only [SS, qg0, qgb, qgl, qgi, qgx, qgz, qge, forall_const, tor, vun, tlen2, tpick, tbox, one, Go.AM.splice, Int.reduceEq, Int.reduceNeg, Nat.reduceGT, Nat.reduceLT, Nat.reduceLeDiff, Nat.reduceEqDiff, ↓reduceIte, reduceCtorEq, Int.reduceToNat, Int.reduceLE, Int.reduceLT, Nat.reduceAdd, Nat.reduceMul, f5, e1, ff_6]
      refine AtCall.by (len_cw ((cwz.kp k15).kp k16)) ?_
      rintro v n17 H17 k17 rfl
      have e2 : (((u.length : Nat) : Int) = ((u.length : Nat) : Int)) = True := eq_true rfl
      simp (config := { maxSteps := 1000000 }) only [SS, qg0, qgb, qgl, qgi, qgx, qgz, qge, forall_const, tor, vun, tlen2, tpick, tbox, one, Go.AM.splice, Int.reduceEq, Int.reduceNeg, Nat.reduceGT, Nat.reduceLT, Nat.reduceLeDiff, Nat.reduceEqDiff, ↓reduceIte, reduceCtorEq, Int.reduceToNat, Int.reduceLE, Int.reduceLT, Nat.reduceAdd, Nat.reduceMul, f6, e2, ff_6]
      repeat (first | apply qqa | apply qqb | apply qqc | apply qqd | apply qqe | apply qqf | apply qqg | apply qqh | refine qqi rfl ?_ | ((first | (refine WK.rgn ?_ ?_; kernel_rfl) | refine AtCall.now ?_); simp (config := { maxSteps := 1000000 }) only [SS, qg0, qgb, qgl, qgi, qgx, qgz, qge, forall_const, tor, vun, tlen2, tpick, tbox, one, Go.AM.splice, Int.reduceEq, Int.reduceNeg, Nat.reduceGT, Nat.reduceLT, Nat.reduceLeDiff, Nat.reduceEqDiff, ↓reduceIte, reduceCtorEq, Int.reduceToNat, Int.reduceLE, Int.reduceLT, Nat.reduceAdd, Nat.reduceMul, ff_6]) | (refine WK.condT ?_ ?_; focus (simp only [ev_tmp, ev_const, fset_apply, Nat.reduceEqDiff, ↓reduceIte, decide_true, decide_false, ff_6]; done)) | (refine WK.condF ?_ ?_; focus (simp only [ev_tmp, ev_const, fset_apply, Nat.reduceEqDiff, ↓reduceIte, decide_true, decide_false, ff_6]; done)))
      (first | refine WK.retNil ⟨Or.inr rfl, _, rfl, ?_, ?_⟩ | refine WK.skipNil ⟨Or.inl rfl, _, rfl, ?_, ?_⟩)
      · intro x hx
        have := k8.le; have := k10.le; have := k11.le; have := k12.le; have := k13.le; have := k15.le; have := k16.le
        exact (k17.keep x (by omega)).trans ((k16.keep x (by omega)).trans ((k15.keep x (by omega)).trans ((k13.keep x (by omega)).trans ((k12.keep x (by omega)).trans ((k11.keep x (by omega)).trans ((k10.keep x (by omega)).trans ((k8.keep x (by omega)).trans (keep7 x hx))))))))
      · simp only [packed, fset_apply, Nat.reduceEqDiff, ↓reduceIte, List.getD_cons_zero, List.getD_cons_succ, ff_6]
end Go.Proofs.Ytpdlmpbhohinpaa
