/- A part of a proof. Its conditions: none. -/
import Derived.Test.YtpdlmpbhohinpaaAmCFacts
import Derived.Test.YtpdlmpbhohinpaaAmC
import Derived.Test.YtpdlmpbhohinpaaAmD
set_option linter.all false
namespace Go.Proofs.Ytpdlmpbhohinpaa
open Go.AM
set_option maxRecDepth 100000
theorem count_set_lt {hs : List Bool} {i : Nat} (hi : i < hs.length) (h : hs[i] = false) : (hs.set i true).count false < hs.count false := by
  have h1 : 0 < hs.count false := List.count_pos_iff.2 (h ▸ List.getElem_mem hi)
  rw [List.count_set hi, h]
  simp
  omega
set_option maxHeartbeats 4000000 in
theorem fix_gives {v : Value} {g : Gram} {n0 n : Nat} {H0 H : Heap} {x F : Nat} {hs : List Bool} {captured : List Value} (rb : GRule → List Bool → Bool) (hw0 : WF n0 H0) (hg : RG H0 v g) (wg : WG g) (k0 : Kp n0 H0 n H) (hx0 : n0 ≤ x)
    (hlen : hs.length ≤ maxL) (hx : H x = .cells (hs.map .bool) 4 true) (hxn : x < n) (hleft : ∀ r ∈ g.rules, 0 ≤ r.left ∧ r.left < hs.length)
    (hrule : ∀ n1 H1 (hs1 : List Bool), WF n1 H1 → Kx (fun z => z = x) n H n1 H1 → hs1.length = hs.length → H1 x = .cells (hs1.map .bool) 4 true → ∀ r ∈ g.rules, ∀ p, RA (Value.int .i64) H1 p r.right →
      Gives Try.prog F (.agg #[.int .i64 r.left, .slice p r.right.length r.right.length, .float .f64 r.weight] :: captured) n1 H1 fun v _ _ => v = .bool (rb r hs1)) :
    GivesX Try.prog (fun z => z = x) 61 [v, .slice (some ⟨x, 0, none⟩) hs.length hs.length, .func (.func F) #[] captured.toArray] n H fun v n' H' => v = .slice (some ⟨x, 0, none⟩) hs.length hs.length ∧ ∃ hs', H' x = .cells (hs'.map .bool) 4 true ∧ hs'.length = hs.length ∧
      Der rb g.rules hs hs' ∧ ∀ r ∈ g.rules, hs'.getD r.left.toNat false = true ∨ rb r hs' = false := by
  have hg' := hg
  obtain ⟨pt, pv, pr, rfl, ht, hv, hr⟩ := hg
  refine GivesX.of orders ok61 (Nat.le_of_ble_eq_true rfl) ?_
  have hk := Kp.new n H (.cells (gcells pt pv pr g) 25 true)
  have hb := hset_at H n (.cells (gcells pt pv pr g) 25 true)
  have wr := wg.rules
  unfold maxL at hlen wr
  repeat (first | apply qqa | apply qqb | apply qqc | apply qqd | apply qqe | apply qqf | apply qqg | apply qqh | refine qqi rfl ?_)
  (refine WK.rgn ?_ ?_; kernel_rfl; simp (config := { maxSteps := 1000000 }) only [SS, qg0, qgb, qgl, qgs, qgi, qgf, qga, forall_const, tor, vun, Go.AM.splice, one, tlen2, tpick, tbox, Int.reduceEq, Int.reduceNeg, Nat.reduceGT, Nat.reduceLT, Nat.reduceLeDiff, Nat.reduceEqDiff, ↓reduceIte, reduceCtorEq, Int.reduceToNat, Int.reduceLE, Int.reduceLT, Nat.reduceAdd, Nat.reduceMul, box_cells, box_one, ff_61])
  replace hx := (hk.keep x hxn).trans hx
  generalize hset H n (.cells (gcells pt pv pr g) 25 true) = H1 at *
  repeat (first | apply qqa | apply qqb | apply qqc | apply qqd | apply qqe | apply qqf | apply qqg | apply qqh | refine qqi rfl ?_ | ((first | (refine WK.rgn ?_ ?_; kernel_rfl) | refine AtCall.now ?_); simp (config := { maxSteps := 1000000 }) only [SS, qg0, qgb, qgl, qgs, qgi, qgf, qga, forall_const, tor, vun, Go.AM.splice, one, tlen2, tpick, tbox, Int.reduceEq, Int.reduceNeg, Nat.reduceGT, Nat.reduceLT, Nat.reduceLeDiff, Nat.reduceEqDiff, ↓reduceIte, reduceCtorEq, Int.reduceToNat, Int.reduceLE, Int.reduceLT, Nat.reduceAdd, Nat.reduceMul, hb, ff_61]) | refine qqj rfl ?_ | refine qqk rfl ?_)
  refine WK.loop (fun k s => ∃ (b : Bool) (hs1 : List Bool), Kx (fun z => z = x) (n + 1) H1 s.n s.H ∧ s.f 1 = .slice (some ⟨x, 0, none⟩) hs.length hs.length ∧ s.f 2 = .func (.func F) #[] captured.toArray ∧ s.f 3 = .pointer (some ⟨n, 0, none⟩) ∧ s.f 7 = .bool b ∧
    s.H x = .cells (hs1.map .bool) 4 true ∧ hs1.length = hs.length ∧ Der rb g.rules hs hs1 ∧ (b = false → ∀ r ∈ g.rules, hs1.getD r.left.toNat false = true ∨ rb r hs1 = false) ∧ k = hs1.count false + (if b then 1 else 0)) (hs.count false + 1) ?_ ?_
  · exact ⟨true, hs, Kx.refl _ _ _, rfl, rfl, rfl, rfl, hx, rfl, .refl, (fun h => by cases h), rfl⟩
  rintro kk ⟨f, n2, H2⟩ ⟨b, hs1, kx, f1, f2, f3, f7, hx2, hl1, hd, hc, rfl⟩ ih
  simp only at f1 f2 f3 f7 ih kx hx2
  have hnx : n ≠ x := by omega
  cases b
  · repeat (first | apply qqa | apply qqb | apply qqc | apply qqd | apply qqe | apply qqf | apply qqg | apply qqh | refine qqi rfl ?_ | ((first | (refine WK.rgn ?_ ?_; kernel_rfl) | refine AtCall.now ?_); simp (config := { maxSteps := 1000000 }) only [SS, qg0, qgb, qgl, qgs, qgi, qgf, qga, forall_const, tor, vun, Go.AM.splice, one, tlen2, tpick, tbox, Int.reduceEq, Int.reduceNeg, Nat.reduceGT, Nat.reduceLT, Nat.reduceLeDiff, Nat.reduceEqDiff, ↓reduceIte, reduceCtorEq, Int.reduceToNat, Int.reduceLE, Int.reduceLT, Nat.reduceAdd, Nat.reduceMul, f1, f7, ff_61]) | refine qqj rfl ?_ | refine qqk rfl ?_)
    repeat (first | apply qqa | apply qqb | apply qqc | apply qqd | apply qqe | apply qqf | apply qqg | apply qqh | refine qqi rfl ?_)
    refine WK.retNil ⟨Or.inr rfl, _, rfl, fun y hy hyx => ?_, ?_⟩
    · exact (kx.keep y (by omega) hyx).trans (hk.keep y hy)
    · simp only [packed, fset_apply, Nat.reduceEqDiff, ↓reduceIte, List.getD_cons_zero, List.getD_cons_succ, f1, ff_61]
      exact ⟨trivial, hs1, hx2, hl1, hd, hc rfl⟩
  · have hb2 := (kx.keep n (by omega) hnx).trans hb
    repeat (first | apply qqa | apply qqb | apply qqc | apply qqd | apply qqe | apply qqf | apply qqg | apply qqh | refine qqi rfl ?_ | ((first | (refine WK.rgn ?_ ?_; kernel_rfl) | refine AtCall.now ?_); simp (config := { maxSteps := 1000000 }) only [SS, qg0, qgb, qgl, qgs, qgi, qgf, qga, forall_const, tor, vun, Go.AM.splice, one, tlen2, tpick, tbox, Int.reduceEq, Int.reduceNeg, Nat.reduceGT, Nat.reduceLT, Nat.reduceLeDiff, Nat.reduceEqDiff, ↓reduceIte, reduceCtorEq, Int.reduceToNat, Int.reduceLE, Int.reduceLT, Nat.reduceAdd, Nat.reduceMul, f1, f7, f3, hb2, gc_2, ff_61]) | refine qqj rfl ?_ | refine qqk rfl ?_)
    have hle2 := kx.le
    refine WK.loop (fun k s => ∃ (j : Nat) (b : Bool) (hs2 : List Bool), Kx (fun z => z = x) (n + 1) H1 s.n s.H ∧ s.f 1 = .slice (some ⟨x, 0, none⟩) hs.length hs.length ∧ s.f 2 = .func (.func F) #[] captured.toArray ∧ s.f 3 = .pointer (some ⟨n, 0, none⟩) ∧ s.f 7 = .bool b ∧
      s.f 12 = .slice pr g.rules.length g.rules.length ∧ s.f 13 = .int .i64 g.rules.length ∧ s.f 14 = .int .i64 (j : Nat) ∧ j ≤ g.rules.length ∧
      s.H x = .cells (hs2.map .bool) 4 true ∧ hs2.length = hs.length ∧ Der rb g.rules hs hs2 ∧ (b = false → hs2 = hs1 ∧ ∀ (i : Nat) (h : i < g.rules.length), i < j → hs2.getD g.rules[i].left.toNat false = true ∨ rb g.rules[i] hs2 = false) ∧ (b = true → hs2.count false < hs1.count false) ∧ k = g.rules.length - j) g.rules.length ?_ ?_
    · exact ⟨0, false, hs1, kx, f1, f2, f3, rfl, rfl, rfl, rfl, Nat.zero_le _, hx2, hl1, hd, (fun _ => ⟨rfl, fun i h hi => by omega⟩), (fun h => by cases h), rfl⟩
    rintro kk ⟨f', n3, H3⟩ ⟨j, b, hs2, kx3, g1, g2, g3, g7, g12, g13, g14, hj, hx3, hl3, hd3, hc3, hc4, rfl⟩ ih2
    simp only at g1 g2 g3 g7 g12 g13 g14 ih2 kx3 hx3
    by_cases hjr : j < g.rules.length
    · have kk3 : Kp n0 H0 n3 H3 := ⟨by have := kx3.le; have := k0.le; omega, fun y hy => ((kx3.keep y (by have := k0.le; omega) (by omega)).trans (hk.keep y (by have := k0.le; omega))).trans (k0.keep y hy), fun h => kx3.wf (hk.wf (k0.wf h))⟩
      have hr3 := hr.mono hw0 kk3
      have hw3 := kk3.wf hw0
      obtain ⟨z, k, cs, ty, own, p, e0, hz, c0, c1, c2, hp⟩ := hr3.at hjr
      have c3 := take3 c0 c1 c2
      have c4 := len3 c2
      have hzn : z < n3 := by
        apply Classical.byContradiction
        intro hc'
        rw [hw3 z (by omega)] at hz; cases hz
      subst e0
      have hm := List.getElem_mem hjr
      obtain ⟨l, hl⟩ : ∃ l : Nat, g.rules[j].left = l := ⟨g.rules[j].left.toNat, by have := (hleft _ hm).1; omega⟩
      have hll : l < hs.length := by have := (hleft _ hm).2; omega
      have hll2 : l < hs2.length := by omega
      have hxn3 : x ≠ n3 := by have := kx3.le; omega
      have hH : ∀ o, hset H3 n3 o x = .cells (hs2.map .bool) 4 true := fun o => (hset_ne _ _ _ hxn3).trans hx3
      have hget : (hs2.map Value.bool)[l]? = some (.bool hs2[l]) := by rw [List.getElem?_map, List.getElem?_eq_getElem hll2]; rfl
      have hgl : hs2.getD l false = hs2[l] := by rw [List.getD_eq_getElem?_getD, List.getElem?_eq_getElem hll2]; rfl
      have kn := Kp.new n3 H3 (.cells [.int .i64 (l : Nat), .slice p g.rules[j].right.length g.rules[j].right.length, .float .f64 g.rules[j].weight] 55 true)
      cases hbv : hs2[l]
      · rw [hbv] at hget hgl
        repeat (first | apply qqa | apply qqb | apply qqc | apply qqd | apply qqe | apply qqf | apply qqg | apply qqh | refine qqi rfl ?_ | ((first | (refine WK.rgn ?_ ?_; kernel_rfl) | refine AtCall.now ?_); simp (config := { maxSteps := 1000000 }) only [SS, qg0, qgb, qgl, qgs, qgi, qgf, qga, forall_const, tor, vun, Go.AM.splice, one, tlen2, tpick, tbox, Int.reduceEq, Int.reduceNeg, Nat.reduceGT, Nat.reduceLT, Nat.reduceLeDiff, Nat.reduceEqDiff, ↓reduceIte, reduceCtorEq, Int.reduceToNat, Int.reduceLE, Int.reduceLT, Nat.reduceAdd, Nat.reduceMul, g1, g2, g12, g13, g14, hjr, hz, c3, c4, hl, hll, hH, hget, hset_hset, List.nil_append, List.cons_append, ff_61]) | refine qqj rfl ?_ | refine qqk rfl ?_)
        have hr' := hrule (n3 + 1) _ hs2 (kn.wf hw3) ((hk.kx.trans kx3).trans kn.kx) hl3 (hH _) _ hm p (hp.mono hw3 kn)
        rw [hl] at hr'
        refine AtCall.by hr' ?_
        rintro v n4 H4 hk4 rfl
        have hH4 : H4 x = .cells (hs2.map .bool) 4 true := (hk4.keep x (by have := kx3.le; omega)).trans (hH _)
        have hN4 := (hk4.keep n3 (by omega)).trans (hset_at _ _ _)
        have kx4 := (kx3.trans kn.kx).trans hk4.kx
        cases hrb : rb g.rules[j] hs2
        · simp (config := { maxSteps := 1000000 }) only [SS, qg0, qgb, qgl, qgs, qgi, qgf, qga, forall_const, tor, vun, Go.AM.splice, one, tlen2, tpick, tbox, Int.reduceEq, Int.reduceNeg, Nat.reduceGT, Nat.reduceLT, Nat.reduceLeDiff, Nat.reduceEqDiff, ↓reduceIte, reduceCtorEq, Int.reduceToNat, Int.reduceLE, Int.reduceLT, Nat.reduceAdd, Nat.reduceMul, ff_61]
          repeat (first | apply qqa | apply qqb | apply qqc | apply qqd | apply qqe | apply qqf | apply qqg | apply qqh | refine qqi rfl ?_ | ((first | (refine WK.rgn ?_ ?_; kernel_rfl) | refine AtCall.now ?_); simp (config := { maxSteps := 1000000 }) only [SS, qg0, qgb, qgl, qgs, qgi, qgf, qga, forall_const, tor, vun, Go.AM.splice, one, tlen2, tpick, tbox, Int.reduceEq, Int.reduceNeg, Nat.reduceGT, Nat.reduceLT, Nat.reduceLeDiff, Nat.reduceEqDiff, ↓reduceIte, reduceCtorEq, Int.reduceToNat, Int.reduceLE, Int.reduceLT, Nat.reduceAdd, Nat.reduceMul, g14, ff_61]) | refine qqj rfl ?_ | refine qqk rfl ?_)
          refine ih2 (g.rules.length - (j + 1)) (by omega) _ ⟨j + 1, b, hs2, kx4, g1, g2, g3, g7, g12, g13, ?_, hjr, hH4, hl3, hd3, (fun h => ⟨(hc3 h).1, fun i hi hij => ?_⟩), hc4, rfl⟩
          · simp only [packed, fset_apply, Nat.reduceEqDiff, ↓reduceIte, List.getD_cons_zero, List.getD_cons_succ, g14, ff_61]
            rw [wrap_in (by omega) (by omega)]; rfl
          · rcases Nat.lt_or_ge i j with h1 | h1
            · exact (hc3 h).2 i hi h1
            · have : i = j := by omega
              subst this
              exact .inr hrb
        · simp (config := { maxSteps := 1000000 }) only [SS, qg0, qgb, qgl, qgs, qgi, qgf, qga, forall_const, tor, vun, Go.AM.splice, one, tlen2, tpick, tbox, Int.reduceEq, Int.reduceNeg, Nat.reduceGT, Nat.reduceLT, Nat.reduceLeDiff, Nat.reduceEqDiff, ↓reduceIte, reduceCtorEq, Int.reduceToNat, Int.reduceLE, Int.reduceLT, Nat.reduceAdd, Nat.reduceMul, ff_61]
          have hll' : l + 1 ≤ hs.length := hll
          have hset' : (hs2.map Value.bool).set l (.bool true) = (hs2.set l true).map .bool := by rw [List.map_set]
          repeat (first | apply qqa | apply qqb | apply qqc | apply qqd | apply qqe | apply qqf | apply qqg | apply qqh | refine qqi rfl ?_ | ((first | (refine WK.rgn ?_ ?_; kernel_rfl) | refine AtCall.now ?_); simp (config := { maxSteps := 1000000 }) only [SS, qg0, qgb, qgl, qgs, qgi, qgf, qga, forall_const, tor, vun, Go.AM.splice, one, tlen2, tpick, tbox, Int.reduceEq, Int.reduceNeg, Nat.reduceGT, Nat.reduceLT, Nat.reduceLeDiff, Nat.reduceEqDiff, ↓reduceIte, reduceCtorEq, Int.reduceToNat, Int.reduceLE, Int.reduceLT, Nat.reduceAdd, Nat.reduceMul, g1, g14, hH4, hN4, hl, hll, hll', hset', List.length_map, hl3, ff_61]) | refine qqj rfl ?_ | refine qqk rfl ?_)
          refine ih2 (g.rules.length - (j + 1)) (by omega) _ ⟨j + 1, true, hs2.set l true, ?_, g1, g2, g3, rfl, g12, g13, ?_, hjr, hset_at _ _ _, by rw [List.length_set, hl3], ?_, (fun h => by cases h), (fun _ => ?_), rfl⟩
          · exact kx4.set _ (.inl rfl) (by have := kx4.le; omega)
          · simp only [packed, fset_apply, Nat.reduceEqDiff, ↓reduceIte, List.getD_cons_zero, List.getD_cons_succ, g14, ff_61]
            rw [wrap_in (by omega) (by omega)]; rfl
          · have := hd3.step _ hm hrb
            rw [hl] at this; exact this
          · have := count_set_lt hll2 hbv
            cases b
            · rw [(hc3 rfl).1] at this ⊢; exact this
            · have := hc4 rfl; omega
      · rw [hbv] at hget hgl
        repeat (first | apply qqa | apply qqb | apply qqc | apply qqd | apply qqe | apply qqf | apply qqg | apply qqh | refine qqi rfl ?_ | ((first | (refine WK.rgn ?_ ?_; kernel_rfl) | refine AtCall.now ?_); simp (config := { maxSteps := 1000000 }) only [SS, qg0, qgb, qgl, qgs, qgi, qgf, qga, forall_const, tor, vun, Go.AM.splice, one, tlen2, tpick, tbox, Int.reduceEq, Int.reduceNeg, Nat.reduceGT, Nat.reduceLT, Nat.reduceLeDiff, Nat.reduceEqDiff, ↓reduceIte, reduceCtorEq, Int.reduceToNat, Int.reduceLE, Int.reduceLT, Nat.reduceAdd, Nat.reduceMul, g1, g2, g12, g13, g14, hjr, hz, c3, c4, hl, hll, hH, hget, hset_hset, ff_61]) | refine qqj rfl ?_ | refine qqk rfl ?_)
        refine ih2 (g.rules.length - (j + 1)) (by omega) _ ⟨j + 1, b, hs2, kx3.trans kn.kx, g1, g2, g3, g7, g12, g13, ?_, hjr, hH _, hl3, hd3, (fun h => ⟨(hc3 h).1, fun i hi hij => ?_⟩), hc4, rfl⟩
        · simp only [packed, fset_apply, Nat.reduceEqDiff, ↓reduceIte, List.getD_cons_zero, List.getD_cons_succ, g14, ff_61]
          rw [wrap_in (by omega) (by omega)]; rfl
        · rcases Nat.lt_or_ge i j with h1 | h1
          · exact (hc3 h).2 i hi h1
          · have : i = j := by omega
            subst this
            rw [hl]; exact .inl hgl
    · repeat (first | apply qqa | apply qqb | apply qqc | apply qqd | apply qqe | apply qqf | apply qqg | apply qqh | refine qqi rfl ?_ | ((first | (refine WK.rgn ?_ ?_; kernel_rfl) | refine AtCall.now ?_); simp (config := { maxSteps := 1000000 }) only [SS, qg0, qgb, qgl, qgs, qgi, qgf, qga, forall_const, tor, vun, Go.AM.splice, one, tlen2, tpick, tbox, Int.reduceEq, Int.reduceNeg, Nat.reduceGT, Nat.reduceLT, Nat.reduceLeDiff, Nat.reduceEqDiff, ↓reduceIte, reduceCtorEq, Int.reduceToNat, Int.reduceLE, Int.reduceLT, Nat.reduceAdd, Nat.reduceMul, g12, g13, g14, hjr, ff_61]) | refine qqj rfl ?_ | refine qqk rfl ?_)
      refine ih _ ?_ _ ⟨b, hs2, kx3, g1, g2, g3, g7, hx3, hl3, hd3, (fun h r hr => ?_), rfl⟩
      · cases b
        · rw [(hc3 rfl).1]; simp
        · have := hc4 rfl; simp; omega
      · obtain ⟨i, hi, rfl⟩ := List.getElem_of_mem hr
        exact (hc3 h).2 i hi (by omega)
end Go.Proofs.Ytpdlmpbhohinpaa
