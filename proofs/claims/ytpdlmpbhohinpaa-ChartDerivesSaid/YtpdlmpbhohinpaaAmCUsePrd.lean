/- A part of a proof. Its conditions: none. -/
import Derived.Test.YtpdlmpbhohinpaaAmCLfNullable
set_option linter.all false
namespace Go.Proofs.Ytpdlmpbhohinpaa
open Go.AM
set_option maxRecDepth 100000
theorem prd1_gives {l : Int} {right : List Int} {wt : Nat} {p : Option Addr} {y x n : Nat} {H : Heap} {hs : List Bool} (hw : WF n H) (hp : RA (Value.int .i64) H p right)
    (hy : H y = .cells [.slice (some ⟨x, 0, none⟩) hs.length hs.length] 58 true) (hx : H x = .cells (hs.map .bool) 4 true) (hl : right.length ≤ maxL) (hr : ∀ s ∈ right, s < hs.length) :
    Gives Try.prog 64 [.agg #[.int .i64 l, .slice p right.length right.length, .float .f64 wt], .pointer (some ⟨y, 0, none⟩)] n H fun v _ _ => v = .bool (prdB right hs) := by
  refine Gives.of orders ok64 (Nat.le_of_ble_eq_true rfl) ?_
  have hk := Kp.new n H (.cells [.int .i64 l, .slice p right.length right.length, .float .f64 wt] 55 true)
  have hb := hset_at H n (.cells [.int .i64 l, .slice p right.length right.length, .float .f64 wt] 55 true)
  have low : ∀ {z cs ty own}, H z = .cells cs ty own → z < n := fun {z cs ty own} e => by
    apply Classical.byContradiction
    intro hc
    rw [hw z (by omega)] at e; cases e
  replace hp := hp.mono hw hk
  replace hy := (hk.keep y (low hy)).trans hy
  replace hx := (hk.keep x (low hx)).trans hx
  repeat (first | apply qqa | apply qqb | apply qqc | apply qqd | apply qqe | apply qqf | apply qqg | apply qqh | refine qqi rfl ?_)
  (refine WK.rgn ?_ ?_; kernel_rfl; simp (config := { maxSteps := 1000000 }) only [SS, qg0, qgb, qgl, qgi, qgf, forall_const, tor, vun, tlen2, tpick, tbox, one, Int.reduceEq, Int.reduceNeg, Nat.reduceGT, Nat.reduceLT, Nat.reduceLeDiff, Nat.reduceEqDiff, ↓reduceIte, reduceCtorEq, Int.reduceToNat, Int.reduceLE, Int.reduceLT, Nat.reduceAdd, Nat.reduceMul, ff_64])
  repeat (first | apply qqa | apply qqb | apply qqc | apply qqd | apply qqe | apply qqf | apply qqg | apply qqh | refine qqi rfl ?_)
  generalize hset H n (.cells [.int .i64 l, .slice p right.length right.length, .float .f64 wt] 55 true) = H1 at *
  repeat (first | apply qqa | apply qqb | apply qqc | apply qqd | apply qqe | apply qqf | apply qqg | apply qqh | refine qqi rfl ?_ | ((first | (refine WK.rgn ?_ ?_; kernel_rfl) | refine AtCall.now ?_); simp (config := { maxSteps := 1000000 }) only [SS, qg0, qgb, qgl, qgi, qgf, forall_const, tor, vun, tlen2, tpick, tbox, one, Int.reduceEq, Int.reduceNeg, Nat.reduceGT, Nat.reduceLT, Nat.reduceLeDiff, Nat.reduceEqDiff, ↓reduceIte, reduceCtorEq, Int.reduceToNat, Int.reduceLE, Int.reduceLT, Nat.reduceAdd, Nat.reduceMul, hb, ff_64]) | refine qqj rfl ?_ | refine qqk rfl ?_)
  unfold maxL at hl
  refine WK.loop (fun k s => ∃ j, s.n = n + 1 ∧ s.H = H1 ∧ s.f 1 = .pointer (some ⟨y, 0, none⟩) ∧ s.f 7 = .slice p right.length right.length ∧ s.f 8 = .int .i64 (right.length : Nat) ∧ s.f 9 = .int .i64 (j : Nat) ∧ j ≤ right.length ∧ k = right.length - j ∧ prdB (right.take j) hs = true) right.length ?_ ?_
  · exact ⟨0, rfl, rfl, rfl, rfl, rfl, rfl, Nat.zero_le _, rfl, rfl⟩
  rintro kk ⟨f, n', H'⟩ ⟨j, rfl, rfl, f1, f7, f8, f9, hj, rfl, hn⟩ ih
  simp only at f1 f7 f8 f9 ih hb hp hx hy hk
  by_cases hjr : j < right.length
  · obtain ⟨z, kz, ds, tz, oz, rfl, hz, e⟩ := hp.at hjr
    have htj : right.take (j + 1) = right.take j ++ [right[j]] := List.take_succ_eq_append_getElem hjr
    have hlt := hr _ (List.getElem_mem hjr)
    repeat (first | apply qqa | apply qqb | apply qqc | apply qqd | apply qqe | apply qqf | apply qqg | apply qqh | refine qqi rfl ?_ | ((first | (refine WK.rgn ?_ ?_; kernel_rfl) | refine AtCall.now ?_); simp (config := { maxSteps := 1000000 }) only [SS, qg0, qgb, qgl, qgi, qgf, forall_const, tor, vun, tlen2, tpick, tbox, one, Int.reduceEq, Int.reduceNeg, Nat.reduceGT, Nat.reduceLT, Nat.reduceLeDiff, Nat.reduceEqDiff, ↓reduceIte, reduceCtorEq, Int.reduceToNat, Int.reduceLE, Int.reduceLT, Nat.reduceAdd, Nat.reduceMul, f1, f7, f8, f9, hjr, hz, e, ff_64]) | refine qqj rfl ?_ | refine qqk rfl ?_)
    refine AtCall.by (isVar_gives _ _ _) ?_
    rintro v n2 H2 hk2 ⟨rfl, rfl, rfl⟩
    by_cases h0 : 0 ≤ right[j]
    · obtain ⟨s, hs'⟩ : ∃ s : Nat, right[j] = s := ⟨right[j].toNat, by omega⟩
      have hsl : s < hs.length := by omega
      have hg : (hs.map Value.bool)[s]? = some (.bool hs[s]) := by rw [List.getElem?_map, List.getElem?_eq_getElem hsl]; rfl
      cases hb2 : hs[s]
      · rw [hb2] at hg
        simp (config := { maxSteps := 1000000 }) only [SS, qg0, qgb, qgl, qgi, qgf, forall_const, tor, vun, tlen2, tpick, tbox, one, Int.reduceEq, Int.reduceNeg, Nat.reduceGT, Nat.reduceLT, Nat.reduceLeDiff, Nat.reduceEqDiff, ↓reduceIte, reduceCtorEq, Int.reduceToNat, Int.reduceLE, Int.reduceLT, Nat.reduceAdd, Nat.reduceMul, f1, f7, f8, f9, hjr, hs', h0, hy, hx, hsl, hg, ff_64]
        repeat (first | apply qqa | apply qqb | apply qqc | apply qqd | apply qqe | apply qqf | apply qqg | apply qqh | refine qqi rfl ?_ | ((first | (refine WK.rgn ?_ ?_; kernel_rfl) | refine AtCall.now ?_); simp (config := { maxSteps := 1000000 }) only [SS, qg0, qgb, qgl, qgi, qgf, forall_const, tor, vun, tlen2, tpick, tbox, one, Int.reduceEq, Int.reduceNeg, Nat.reduceGT, Nat.reduceLT, Nat.reduceLeDiff, Nat.reduceEqDiff, ↓reduceIte, reduceCtorEq, Int.reduceToNat, Int.reduceLE, Int.reduceLT, Nat.reduceAdd, Nat.reduceMul, f1, f7, f8, f9, ff_64]) | refine qqj rfl ?_ | refine qqk rfl ?_)
        (first | refine WK.retNil ⟨Or.inr rfl, _, rfl, ?_, ?_⟩ | refine WK.skipNil ⟨Or.inl rfl, _, rfl, ?_, ?_⟩)
        · exact hk.keep
        · simp only [packed, fset_apply, Nat.reduceEqDiff, ↓reduceIte, List.getD_cons_zero, List.getD_cons_succ, ff_64]
          have : prdB right hs = false := by
            unfold prdB
            rw [List.all_eq_false]
            exact ⟨right[j], List.getElem_mem hjr, by rw [hs']; simp [hsl, hb2]⟩
          rw [this]
      · rw [hb2] at hg
        simp (config := { maxSteps := 1000000 }) only [SS, qg0, qgb, qgl, qgi, qgf, forall_const, tor, vun, tlen2, tpick, tbox, one, Int.reduceEq, Int.reduceNeg, Nat.reduceGT, Nat.reduceLT, Nat.reduceLeDiff, Nat.reduceEqDiff, ↓reduceIte, reduceCtorEq, Int.reduceToNat, Int.reduceLE, Int.reduceLT, Nat.reduceAdd, Nat.reduceMul, f1, f7, f8, f9, hjr, hs', h0, hy, hx, hsl, hg, ff_64]
        repeat (first | apply qqa | apply qqb | apply qqc | apply qqd | apply qqe | apply qqf | apply qqg | apply qqh | refine qqi rfl ?_ | ((first | (refine WK.rgn ?_ ?_; kernel_rfl) | refine AtCall.now ?_); simp (config := { maxSteps := 1000000 }) only [SS, qg0, qgb, qgl, qgi, qgf, forall_const, tor, vun, tlen2, tpick, tbox, one, Int.reduceEq, Int.reduceNeg, Nat.reduceGT, Nat.reduceLT, Nat.reduceLeDiff, Nat.reduceEqDiff, ↓reduceIte, reduceCtorEq, Int.reduceToNat, Int.reduceLE, Int.reduceLT, Nat.reduceAdd, Nat.reduceMul, f1, f7, f8, f9, ff_64]) | refine qqj rfl ?_ | refine qqk rfl ?_)
        refine ih (right.length - (j + 1)) (by omega) _ ⟨j + 1, rfl, rfl, f1, f7, f8, ?_, hjr, rfl, ?_⟩
        · simp only [packed, fset_apply, Nat.reduceEqDiff, ↓reduceIte, List.getD_cons_zero, List.getD_cons_succ, f9, ff_64]
          rw [wrap_in (by omega) (by omega)]; rfl
        · rw [htj]
          unfold prdB at hn ⊢
          rw [List.all_append, hn, hs']
          simp [hsl, hb2]
    · simp (config := { maxSteps := 1000000 }) only [SS, qg0, qgb, qgl, qgi, qgf, forall_const, tor, vun, tlen2, tpick, tbox, one, Int.reduceEq, Int.reduceNeg, Nat.reduceGT, Nat.reduceLT, Nat.reduceLeDiff, Nat.reduceEqDiff, ↓reduceIte, reduceCtorEq, Int.reduceToNat, Int.reduceLE, Int.reduceLT, Nat.reduceAdd, Nat.reduceMul, f1, f7, f8, f9, hjr, h0, ff_64]
      repeat (first | apply qqa | apply qqb | apply qqc | apply qqd | apply qqe | apply qqf | apply qqg | apply qqh | refine qqi rfl ?_ | ((first | (refine WK.rgn ?_ ?_; kernel_rfl) | refine AtCall.now ?_); simp (config := { maxSteps := 1000000 }) only [SS, qg0, qgb, qgl, qgi, qgf, forall_const, tor, vun, tlen2, tpick, tbox, one, Int.reduceEq, Int.reduceNeg, Nat.reduceGT, Nat.reduceLT, Nat.reduceLeDiff, Nat.reduceEqDiff, ↓reduceIte, reduceCtorEq, Int.reduceToNat, Int.reduceLE, Int.reduceLT, Nat.reduceAdd, Nat.reduceMul, f1, f7, f8, f9, ff_64]) | refine qqj rfl ?_ | refine qqk rfl ?_)
      refine ih (right.length - (j + 1)) (by omega) _ ⟨j + 1, rfl, rfl, f1, f7, f8, ?_, hjr, rfl, ?_⟩
      · simp only [packed, fset_apply, Nat.reduceEqDiff, ↓reduceIte, List.getD_cons_zero, List.getD_cons_succ, f9, ff_64]
        rw [wrap_in (by omega) (by omega)]; rfl
      · rw [htj]
        unfold prdB at hn ⊢
        rw [List.all_append, hn]
        simp [show right[j] < 0 by omega]
  · repeat (first | apply qqa | apply qqb | apply qqc | apply qqd | apply qqe | apply qqf | apply qqg | apply qqh | refine qqi rfl ?_ | ((first | (refine WK.rgn ?_ ?_; kernel_rfl) | refine AtCall.now ?_); simp (config := { maxSteps := 1000000 }) only [SS, qg0, qgb, qgl, qgi, qgf, forall_const, tor, vun, tlen2, tpick, tbox, one, Int.reduceEq, Int.reduceNeg, Nat.reduceGT, Nat.reduceLT, Nat.reduceLeDiff, Nat.reduceEqDiff, ↓reduceIte, reduceCtorEq, Int.reduceToNat, Int.reduceLE, Int.reduceLT, Nat.reduceAdd, Nat.reduceMul, f1, f7, f8, f9, hjr, ff_64]) | refine qqj rfl ?_ | refine qqk rfl ?_)
    (first | refine WK.retNil ⟨Or.inr rfl, _, rfl, ?_, ?_⟩ | refine WK.skipNil ⟨Or.inl rfl, _, rfl, ?_, ?_⟩)
    · exact hk.keep
    · simp only [packed, fset_apply, Nat.reduceEqDiff, ↓reduceIte, List.getD_cons_zero, List.getD_cons_succ, ff_64]
      rw [List.take_of_length_le (by omega)] at hn
      rw [hn]
set_option maxHeartbeats 4000000 in
theorem productive_gives {v : Value} {g : Gram} {n : Nat} {H : Heap} (hw : WF n H) (hg : RG H v g) (wg : WG g) (ok : RightOK g) :
    Gives Try.prog 38 [v] n H fun v n' H' => ∃ (hs : List Bool) (x : Nat), n ≤ x ∧ x < n' ∧ v = .slice (some ⟨x, 0, none⟩) g.vars.length g.vars.length ∧ hs.length = g.vars.length ∧ H' x = .cells (hs.map .bool) 4 true ∧ ∀ v, hold hs v ↔ Prd g v := by
  have hg0 := hg
  obtain ⟨pt, pv, pr, rfl, ht, hv, hr⟩ := hg
  refine Gives.of orders ok38 (Nat.le_of_ble_eq_true rfl) ?_
  have hk := Kp.new n H (.cells (gcells pt pv pr g) 25 true)
  have hb := hset_at H n (.cells (gcells pt pv pr g) 25 true)
  have hi := ok.inG
  have hvl : (g.vars.length : Int) ≤ bigN := by have := ok.vars; unfold bigN; omega
  repeat (first | apply qqa | apply qqb | apply qqc | apply qqd | apply qqe | apply qqf | apply qqg | apply qqh | refine qqi rfl ?_)
  (refine WK.rgn ?_ ?_; kernel_rfl; simp (config := { maxSteps := 1000000 }) only [SS, qg0, qgl, qgs, qgf, qga, forall_const, Go.AM.splice, one, tlen2, tbox, tmake, Int.reduceEq, Int.reduceNeg, Nat.reduceGT, Nat.reduceLT, Nat.reduceLeDiff, Nat.reduceEqDiff, ↓reduceIte, reduceCtorEq, Int.reduceToNat, Int.reduceLE, Int.reduceLT, Nat.reduceAdd, Nat.reduceMul, box_cells, box_one, ff_38])
  generalize hset H n (.cells (gcells pt pv pr g) 25 true) = H1 at *
  repeat (first | apply qqa | apply qqb | apply qqc | apply qqd | apply qqe | apply qqf | apply qqg | apply qqh | refine qqi rfl ?_)
  (refine WK.rgn ?_ ?_; kernel_rfl; simp (config := { maxSteps := 1000000 }) only [SS, qg0, qgl, qgs, qgf, qga, forall_const, Go.AM.splice, one, tlen2, tbox, tmake, Int.reduceEq, Int.reduceNeg, Nat.reduceGT, Nat.reduceLT, Nat.reduceLeDiff, Nat.reduceEqDiff, ↓reduceIte, reduceCtorEq, Int.reduceToNat, Int.reduceLE, Int.reduceLT, Nat.reduceAdd, Nat.reduceMul, hb, gc_0, gc_1, gc_2, hvl, ff_38])
  repeat (first | apply qqa | apply qqb | apply qqc | apply qqd | apply qqe | apply qqf | apply qqg | apply qqh | refine qqi rfl ?_)
  have k1 := (Kp.new (n + 1) H1 (.cells (rep g.vars.length [.bool false]) 4 true)).trans (Kp.new (n + 1 + 1) _ (.cells [.slice (some ⟨n + 1, 0, none⟩) g.vars.length g.vars.length] 58 true))
  have b0 := (k1.keep n (by omega)).trans hb
  have b1 : (hset (hset H1 (n + 1) (.cells (rep g.vars.length [.bool false]) 4 true)) (n + 1 + 1) (.cells [.slice (some ⟨n + 1, 0, none⟩) g.vars.length g.vars.length] 58 true)) (n + 1) = _ := (hset_ne _ _ _ (by omega)).trans (hset_at _ _ _)
  have b2 : (hset (hset H1 (n + 1) (.cells (rep g.vars.length [.bool false]) 4 true)) (n + 1 + 1) (.cells [.slice (some ⟨n + 1, 0, none⟩) g.vars.length g.vars.length] 58 true)) (n + 1 + 1) = _ := hset_at _ _ _
  generalize hset (hset H1 (n + 1) (.cells (rep g.vars.length [.bool false]) 4 true)) (n + 1 + 1) (.cells [.slice (some ⟨n + 1, 0, none⟩) g.vars.length g.vars.length] 58 true) = H2 at *
  rw [rep_map] at b1
  (refine WK.rgn ?_ ?_; kernel_rfl; simp (config := { maxSteps := 1000000 }) only [SS, qg0, qgl, qgs, qgf, qga, forall_const, Go.AM.splice, one, tlen2, tbox, tmake, Int.reduceEq, Int.reduceNeg, Nat.reduceGT, Nat.reduceLT, Nat.reduceLeDiff, Nat.reduceEqDiff, ↓reduceIte, reduceCtorEq, Int.reduceToNat, Int.reduceLE, Int.reduceLT, Nat.reduceAdd, Nat.reduceMul, b0, b1, b2, gc_len, gc_all, ff_38])
  have kk := hk.trans k1
  have hf := fix_gives (F := 64) (captured := [.pointer (some ⟨n + 1 + 1, 0, none⟩)]) (fun r => prdB r.right) hw hg0 wg kk (x := n + 1) (by omega) (hs := List.replicate g.vars.length false) (by rw [List.length_replicate]; exact wg.vars) b1 (by omega)
    (fun r hr => ⟨hi.left0 r hr, by rw [List.length_replicate]; exact hi.left1 r hr⟩) (fun n3 H3 hs1 hw3 kx hl hx r hr p hp => by
      have hy := (kx.keep (n + 1 + 1) (by omega) (by omega)).trans b2
      rw [List.length_replicate] at hl
      rw [← hl] at hy
      exact prd1_gives hw3 hp hy hx (wg.right r hr).1 (fun s hs => by rw [hl]; exact hi.right r hr s hs))
  rw [List.length_replicate] at hf
  refine AtCall.byX hf ?_
  rintro v n3 H3 kx ⟨rfl, hs, hx, hl, hd, hc⟩
  simp (config := { maxSteps := 1000000 }) only [SS, qg0, qgl, qgs, qgf, qga, forall_const, Go.AM.splice, one, tlen2, tbox, tmake, Int.reduceEq, Int.reduceNeg, Nat.reduceGT, Nat.reduceLT, Nat.reduceLeDiff, Nat.reduceEqDiff, ↓reduceIte, reduceCtorEq, Int.reduceToNat, Int.reduceLE, Int.reduceLT, Nat.reduceAdd, Nat.reduceMul, ff_38]
  repeat (first | apply qqa | apply qqb | apply qqc | apply qqd | apply qqe | apply qqf | apply qqg | apply qqh | refine qqi rfl ?_ | ((first | (refine WK.rgn ?_ ?_; kernel_rfl) | refine AtCall.now ?_); simp (config := { maxSteps := 1000000 }) only [SS, qg0, qgl, qgs, qgf, qga, forall_const, Go.AM.splice, one, tlen2, tbox, tmake, Int.reduceEq, Int.reduceNeg, Nat.reduceGT, Nat.reduceLT, Nat.reduceLeDiff, Nat.reduceEqDiff, ↓reduceIte, reduceCtorEq, Int.reduceToNat, Int.reduceLE, Int.reduceLT, Nat.reduceAdd, Nat.reduceMul, ff_38]) | refine qqj rfl ?_ | refine qqk rfl ?_)
  (first | refine WK.retNil ⟨Or.inr rfl, _, rfl, ?_, ?_⟩ | refine WK.skipNil ⟨Or.inl rfl, _, rfl, ?_, ?_⟩)
  · exact fun y hy => (kx.keep y (by omega) (by omega)).trans (kk.keep y hy)
  · simp only [packed, fset_apply, Nat.reduceEqDiff, ↓reduceIte, List.getD_cons_zero, List.getD_cons_succ, ff_38]
    have := kx.le
    refine ⟨hs, n + 1, by omega, by show n + 1 < n3; omega, rfl, by rw [hl], hx, fun v => ⟨der_prd hi hd v, closed_prd hi hc v⟩⟩
end Go.Proofs.Ytpdlmpbhohinpaa
