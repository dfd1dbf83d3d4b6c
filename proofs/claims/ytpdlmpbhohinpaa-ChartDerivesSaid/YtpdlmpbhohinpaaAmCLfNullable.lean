/- A part of a proof. Its conditions: none. -/
import Derived.Test.YtpdlmpbhohinpaaAmCLfRight
import Derived.Test.YtpdlmpbhohinpaaAmCLfFix
import Derived.Test.YtpdlmpbhohinpaaAmCLfNull
set_option linter.all false
namespace Go.Proofs.Ytpdlmpbhohinpaa
open Go.AM
set_option maxRecDepth 100000
theorem RightOK.inG {g : Gram} (h : RightOK g) : InG g := by
  refine ⟨fun r hr => ?_, fun r hr => ?_, fun r hr s hs => ?_, fun r hr s hs => ?_⟩ <;> obtain ⟨i, hi, rfl⟩ := List.getElem_of_mem hr
  · exact (h.rule i hi).left0
  · exact (h.rule i hi).left1
  · exact ((h.rule i hi).sym s hs).1
  · exact ((h.rule i hi).sym s hs).2
theorem rep_map (l : Nat) : rep l [Value.bool false] = (List.replicate l false).map .bool := by
  induction l with
  | zero => rfl
  | succ l ih => rw [List.replicate_succ, List.map_cons, ← ih]; rfl
set_option maxHeartbeats 4000000 in
theorem nullable_gives {v : Value} {g : Gram} {n : Nat} {H : Heap} (hw : WF n H) (hg : RG H v g) (wg : WG g) (ok : RightOK g) :
    Gives Try.prog 36 [v] n H fun v n' H' => ∃ (hs : List Bool) (x : Nat), n ≤ x ∧ x < n' ∧ v = .slice (some ⟨x, 0, none⟩) g.vars.length g.vars.length ∧ hs.length = g.vars.length ∧ H' x = .cells (hs.map .bool) 4 true ∧ ∀ v, hold hs v ↔ Nul g v := by
  have hg0 := hg
  obtain ⟨pt, pv, pr, rfl, ht, hv, hr⟩ := hg
  refine Gives.of orders ok36 (Nat.le_of_ble_eq_true rfl) ?_
  have hk := Kp.new n H (.cells (gcells pt pv pr g) 25 true)
  have hb := hset_at H n (.cells (gcells pt pv pr g) 25 true)
  have hi := ok.inG
  have hvl : (g.vars.length : Int) ≤ bigN := by have := ok.vars; unfold bigN; omega
  repeat (first | apply qqa | apply qqb | apply qqc | apply qqd | apply qqe | apply qqf | apply qqg | apply qqh | refine qqi rfl ?_)
  (refine WK.rgn ?_ ?_; kernel_rfl; simp (config := { maxSteps := 1000000 }) only [SS, qg0, qgl, qgs, qgf, qga, forall_const, Go.AM.splice, one, tlen2, tbox, tmake, Int.reduceEq, Int.reduceNeg, Nat.reduceGT, Nat.reduceLT, Nat.reduceLeDiff, Nat.reduceEqDiff, ↓reduceIte, reduceCtorEq, Int.reduceToNat, Int.reduceLE, Int.reduceLT, Nat.reduceAdd, Nat.reduceMul, box_cells, box_one, ff_36])
  generalize hset H n (.cells (gcells pt pv pr g) 25 true) = H1 at *
  repeat (first | apply qqa | apply qqb | apply qqc | apply qqd | apply qqe | apply qqf | apply qqg | apply qqh | refine qqi rfl ?_)
  (refine WK.rgn ?_ ?_; kernel_rfl; simp (config := { maxSteps := 1000000 }) only [SS, qg0, qgl, qgs, qgf, qga, forall_const, Go.AM.splice, one, tlen2, tbox, tmake, Int.reduceEq, Int.reduceNeg, Nat.reduceGT, Nat.reduceLT, Nat.reduceLeDiff, Nat.reduceEqDiff, ↓reduceIte, reduceCtorEq, Int.reduceToNat, Int.reduceLE, Int.reduceLT, Nat.reduceAdd, Nat.reduceMul, hb, gc_0, gc_1, gc_2, hvl, ff_36])
  repeat (first | apply qqa | apply qqb | apply qqc | apply qqd | apply qqe | apply qqf | apply qqg | apply qqh | refine qqi rfl ?_)
  have k1 := (Kp.new (n + 1) H1 (.cells (rep g.vars.length [.bool false]) 4 true)).trans (Kp.new (n + 1 + 1) _ (.cells [.slice (some ⟨n + 1, 0, none⟩) g.vars.length g.vars.length] 58 true))
  have b0 := (k1.keep n (by omega)).trans hb
  have b1 : (hset (hset H1 (n + 1) (.cells (rep g.vars.length [.bool false]) 4 true)) (n + 1 + 1) (.cells [.slice (some ⟨n + 1, 0, none⟩) g.vars.length g.vars.length] 58 true)) (n + 1) = _ := (hset_ne _ _ _ (by omega)).trans (hset_at _ _ _)
  have b2 : (hset (hset H1 (n + 1) (.cells (rep g.vars.length [.bool false]) 4 true)) (n + 1 + 1) (.cells [.slice (some ⟨n + 1, 0, none⟩) g.vars.length g.vars.length] 58 true)) (n + 1 + 1) = _ := hset_at _ _ _
  generalize hset (hset H1 (n + 1) (.cells (rep g.vars.length [.bool false]) 4 true)) (n + 1 + 1) (.cells [.slice (some ⟨n + 1, 0, none⟩) g.vars.length g.vars.length] 58 true) = H2 at *
  rw [rep_map] at b1
  (refine WK.rgn ?_ ?_; kernel_rfl; simp (config := { maxSteps := 1000000 }) only [SS, qg0, qgl, qgs, qgf, qga, forall_const, Go.AM.splice, one, tlen2, tbox, tmake, Int.reduceEq, Int.reduceNeg, Nat.reduceGT, Nat.reduceLT, Nat.reduceLeDiff, Nat.reduceEqDiff, ↓reduceIte, reduceCtorEq, Int.reduceToNat, Int.reduceLE, Int.reduceLT, Nat.reduceAdd, Nat.reduceMul, b0, b1, b2, gc_len, gc_all, ff_36])
  have kk := hk.trans k1
  have hf := fix_gives (F := 62) (captured := [.pointer (some ⟨n + 1 + 1, 0, none⟩)]) (fun r => nulB r.right) hw hg0 wg kk (x := n + 1) (by omega) (hs := List.replicate g.vars.length false) (by rw [List.length_replicate]; exact wg.vars) b1 (by omega)
    (fun r hr => ⟨hi.left0 r hr, by rw [List.length_replicate]; exact hi.left1 r hr⟩) (fun n3 H3 hs1 hw3 kx hl hx r hr p hp => by
      have hy := (kx.keep (n + 1 + 1) (by omega) (by omega)).trans b2
      rw [List.length_replicate] at hl
      rw [← hl] at hy
      exact nul1_gives hw3 hp hy hx (wg.right r hr).1 (fun s hs => by rw [hl]; exact hi.right r hr s hs))
  rw [List.length_replicate] at hf
  refine AtCall.byX hf ?_
  rintro v n3 H3 kx ⟨rfl, hs, hx, hl, hd, hc⟩
  simp (config := { maxSteps := 1000000 }) only [SS, qg0, qgl, qgs, qgf, qga, forall_const, Go.AM.splice, one, tlen2, tbox, tmake, Int.reduceEq, Int.reduceNeg, Nat.reduceGT, Nat.reduceLT, Nat.reduceLeDiff, Nat.reduceEqDiff, ↓reduceIte, reduceCtorEq, Int.reduceToNat, Int.reduceLE, Int.reduceLT, Nat.reduceAdd, Nat.reduceMul, ff_36]
  repeat (first | apply qqa | apply qqb | apply qqc | apply qqd | apply qqe | apply qqf | apply qqg | apply qqh | refine qqi rfl ?_ | ((first | (refine WK.rgn ?_ ?_; kernel_rfl) | refine AtCall.now ?_); simp (config := { maxSteps := 1000000 }) only [SS, qg0, qgl, qgs, qgf, qga, forall_const, Go.AM.splice, one, tlen2, tbox, tmake, Int.reduceEq, Int.reduceNeg, Nat.reduceGT, Nat.reduceLT, Nat.reduceLeDiff, Nat.reduceEqDiff, ↓reduceIte, reduceCtorEq, Int.reduceToNat, Int.reduceLE, Int.reduceLT, Nat.reduceAdd, Nat.reduceMul, ff_36]) | refine qqj rfl ?_ | refine qqk rfl ?_)
  (first | refine WK.retNil ⟨Or.inr rfl, _, rfl, ?_, ?_⟩ | refine WK.skipNil ⟨Or.inl rfl, _, rfl, ?_, ?_⟩)
  · exact fun y hy => (kx.keep y (by omega) (by omega)).trans (kk.keep y hy)
  · simp only [packed, fset_apply, Nat.reduceEqDiff, ↓reduceIte, List.getD_cons_zero, List.getD_cons_succ, ff_36]
    have := kx.le
    refine ⟨hs, n + 1, by omega, by show n + 1 < n3; omega, rfl, by rw [hl], hx, fun v => ⟨der_nul hi hd v, closed_nul hi hc v⟩⟩
end Go.Proofs.Ytpdlmpbhohinpaa
