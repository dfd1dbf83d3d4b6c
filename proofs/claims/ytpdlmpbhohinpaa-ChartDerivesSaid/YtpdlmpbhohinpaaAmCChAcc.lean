/- A part of a proof. Its conditions: none. -/
import Derived.Test.YtpdlmpbhohinpaaAmCChPush
set_option linter.all false
namespace Go.Proofs.Ytpdlmpbhohinpaa
open Go.AM Go.RowKit
set_option maxRecDepth 100000
def accP (g : Gram) (x : It) : Bool := (nx g x).isNone && decide (x.2.2 = 0) && decide (lft g x.1 = 0)
set_option maxHeartbeats 8000000 in
theorem accm_gives {S H : Heap} {N o y x n : Nat} {pt pv pr pg pe pc : Option Addr} {g : Gram} {gd em : List Bool} {co : List Nat} {sets : List (List It)} {w : List Int} (st : Stat S N pr pg pe pc g gd em co) (hw : WF n H) (hS : Sub S H)
    (hc : CHR H N o y x pt pv pr pg pe pc g gd em co sets w) (hk : okS g sets) (ha : sets.length ≤ 4000) :
    Gives Try.prog 19 [.pointer (some ⟨o, 0, none⟩)] n H fun v _ _ => v = .bool (accB g sets) := by
  refine Gives.of orders ok19 (Nat.le_of_ble_eq_true rfl) ?_
  obtain ⟨c, wv, cs, ho, hyN, hy, hyl, hsr, hwv⟩ := id hc
  have low : ∀ {z cs ty own}, H z = .cells cs ty own → z < n := fun {z cs ty own} e => Classical.byContradiction fun hc => by rw [hw z (by omega)] at e; cases e
  have hon := low ho
  have hs0 := List.length_pos_iff.2 hk.1
  have hsl : sets.length - 1 < sets.length := by omega
  obtain ⟨pp, hpp, hlr⟩ := hsr _ hsl
  have hlast : lastS sets = sets[sets.length - 1] := by unfold lastS; rw [List.getD_eq_getElem?_getD, List.getElem?_eq_getElem hsl]; rfl
  have hlok := lastS_ok hk
  have hacc : accB g sets = (lastS sets).any (accP g) := rfl
  rw [← hlast] at hpp hlr
  rw [hacc]
  generalize hps : lastS sets = ps at *
  repeat (first | apply qqa | apply qqb | apply qqc | apply qqd | apply qqe | apply qqf | apply qqg | apply qqh | refine qqi rfl ?_)
  have hsub : IntKind.wrap .i64 ((sets.length : Int) - 1) = ((sets.length - 1 : Nat) : Int) := by rw [wrap_in (by omega) (by omega)]; omega
  repeat (first | apply qqa | apply qqb | apply qqc | apply qqd | apply qqe | apply qqf | apply qqg | apply qqh | refine qqi rfl ?_ | ((first | (refine WK.rgn ?_ ?_; kernel_rfl) | refine AtCall.now ?_); simp (config := { maxSteps := 1000000 }) only [SS, qg0, qgb, qgl, qgs, qgi, qgf, qga, forall_const, tor, vun, Go.AM.splice, one, tlen2, tpick, textr, Int.reduceEq, Int.reduceNeg, Nat.reduceGT, Nat.reduceLT, Nat.reduceLeDiff, Nat.reduceEqDiff, ↓reduceIte, reduceCtorEq, Int.reduceToNat, Int.reduceLE, Int.reduceLT, Nat.reduceAdd, Nat.reduceMul, ho, ch6, hy, hsub, hsl, hpp, aop_nc, tnc, ff_19]) | refine qqj rfl ?_ | refine qqk rfl ?_)
  refine WK.loop (fun k2 s => ∃ j : Nat, Kp n H s.n s.H ∧ s.f 0 = .pointer (some ⟨o, 0, none⟩) ∧ s.f 19 = .slice pp ps.length ps.length ∧ s.f 20 = .int .i64 (ps.length : Nat) ∧ s.f 21 = .int .i64 (j : Nat) ∧ j ≤ ps.length ∧ (ps.take j).any (accP g) = false ∧ k2 = ps.length - j) ps.length ?_ ?_
  · exact ⟨0, .refl _ _, rfl, rfl, rfl, rfl, Nat.zero_le _, rfl, rfl⟩
  rintro kk ⟨f, n3, H3⟩ ⟨j, kx, f0, f19, f20, f21, hj, hn3, rfl⟩ ih
  simp only at f0 f19 f20 f21 kx ih
  have hw3 := kx.wf hw
  have hS3 := hS.kp hw kx
  have ho3 := (kx.keep o hon).trans ho
  have hpl := hlok.len
  have hB := bndI_le (at_ := sets.length - 1) st.rl st.r8
  by_cases hlt : j < ps.length
  · obtain ⟨zp, op, rfl, hzp, e3, e4⟩ := (hlr.rk (kx.rk hw)).at hlt
    have hk4 := Kp.new n3 H3 (.cells (itC ps[j]) 74 true)
    have hb4 := hset_at H3 n3 (.cells (itC ps[j]) 74 true)
    have hle := kx.le
    have ho4 := (hk4.keep o (by omega)).trans ho3
    have hS4 := hS3.kp hw3 hk4
    have hw4 := hk4.wf hw3
    have kx4 := kx.trans hk4
    generalize hE : hset H3 n3 (.cells (itC ps[j]) 74 true) = H4 at *
    repeat (first | apply qqa | apply qqb | apply qqc | apply qqd | apply qqe | apply qqf | apply qqg | apply qqh | refine qqi rfl ?_ | ((first | (refine WK.rgn ?_ ?_; kernel_rfl) | refine AtCall.now ?_); simp (config := { maxSteps := 1000000 }) only [SS, qg0, qgb, qgl, qgs, qgi, qgf, qga, forall_const, tor, vun, Go.AM.splice, one, tlen2, tpick, textr, Int.reduceEq, Int.reduceNeg, Nat.reduceGT, Nat.reduceLT, Nat.reduceLeDiff, Nat.reduceEqDiff, ↓reduceIte, reduceCtorEq, Int.reduceToNat, Int.reduceLE, Int.reduceLT, Nat.reduceAdd, Nat.reduceMul, f0, f19, f20, f21, hlt, hzp, e3, e4, itvc, itone, itsp, itle, ittk, itag, hb4, hE, ff_19]) | refine qqj rfl ?_ | refine qqk rfl ?_)
    obtain ⟨hq1, hq2, hq3⟩ := hlok.ok _ (List.getElem_mem hlt)
    refine AtCall.by (next_gives st hw4 hS4 ho4 hq1 hq2) ?_
    rintro wq n5 H5 hk5 rfl
    have hb5 := (hk5.keep n3 (by omega)).trans hb4
    have ho5 := (hk5.keep o (by omega)).trans ho4
    have hS5 := hS4.kp hw4 hk5
    have kx5 := kx4.trans hk5
    have hwj : IntKind.wrap .i64 ((j : Int) + 1) = ((j + 1 : Nat) : Int) := by rw [wrap_in (by omega) (by omega)]; rfl
    have htj : ps.take (j + 1) = ps.take j ++ [ps[j]] := List.take_succ_eq_append_getElem hlt
    have go : accP g ps[j] = false → (ps.take (j + 1)).any (accP g) = false := fun h => by rw [htj, List.any_append, hn3]; simp [h]
    cases hn : nx g ps[j] with
    | some y0 =>
      simp (config := { maxSteps := 1000000 }) only [SS, qg0, qgb, qgl, qgs, qgi, qgf, qga, forall_const, tor, vun, Go.AM.splice, one, tlen2, tpick, textr, Int.reduceEq, Int.reduceNeg, Nat.reduceGT, Nat.reduceLT, Nat.reduceLeDiff, Nat.reduceEqDiff, ↓reduceIte, reduceCtorEq, Int.reduceToNat, Int.reduceLE, Int.reduceLT, Nat.reduceAdd, Nat.reduceMul, ff_19]
      repeat (first | apply qqa | apply qqb | apply qqc | apply qqd | apply qqe | apply qqf | apply qqg | apply qqh | refine qqi rfl ?_ | ((first | (refine WK.rgn ?_ ?_; kernel_rfl) | refine AtCall.now ?_); simp (config := { maxSteps := 1000000 }) only [SS, qg0, qgb, qgl, qgs, qgi, qgf, qga, forall_const, tor, vun, Go.AM.splice, one, tlen2, tpick, textr, Int.reduceEq, Int.reduceNeg, Nat.reduceGT, Nat.reduceLT, Nat.reduceLeDiff, Nat.reduceEqDiff, ↓reduceIte, reduceCtorEq, Int.reduceToNat, Int.reduceLE, Int.reduceLT, Nat.reduceAdd, Nat.reduceMul, f0, f19, f20, f21, Option.isSome_some, hwj, ff_19]) | refine qqj rfl ?_ | refine qqk rfl ?_)
      refine ih (ps.length - (j + 1)) (by omega) _ ⟨j + 1, kx5, f0, f19, f20, ?_, hlt, go (by unfold accP; rw [hn]; rfl), rfl⟩
      simp only [packed, fset_apply, Nat.reduceEqDiff, ↓reduceIte, List.getD_cons_zero, List.getD_cons_succ, f21, hwj, ff_19]
    | none =>
      by_cases hf0 : ps[j].2.2 = 0
      · have hf1 : ((ps[j].2.2 : Int) = 0) = True := by rw [hf0]; simp
        obtain ⟨z, kz, ds, tz, oz, p, rfl, hz, c0, c1, c2, hpp2⟩ := (st.rr.sub hS5).at hq1
        have hlf := lft_at hq1
        by_cases hl0 : g.rules[ps[j].1].left = 0
        · simp (config := { maxSteps := 1000000 }) only [SS, qg0, qgb, qgl, qgs, qgi, qgf, qga, forall_const, tor, vun, Go.AM.splice, one, tlen2, tpick, textr, Int.reduceEq, Int.reduceNeg, Nat.reduceGT, Nat.reduceLT, Nat.reduceLeDiff, Nat.reduceEqDiff, ↓reduceIte, reduceCtorEq, Int.reduceToNat, Int.reduceLE, Int.reduceLT, Nat.reduceAdd, Nat.reduceMul, ff_19]
          repeat (first | apply qqa | apply qqb | apply qqc | apply qqd | apply qqe | apply qqf | apply qqg | apply qqh | refine qqi rfl ?_ | ((first | (refine WK.rgn ?_ ?_; kernel_rfl) | refine AtCall.now ?_); simp (config := { maxSteps := 1000000 }) only [SS, qg0, qgb, qgl, qgs, qgi, qgf, qga, forall_const, tor, vun, Go.AM.splice, one, tlen2, tpick, textr, Int.reduceEq, Int.reduceNeg, Nat.reduceGT, Nat.reduceLT, Nat.reduceLeDiff, Nat.reduceEqDiff, ↓reduceIte, reduceCtorEq, Int.reduceToNat, Int.reduceLE, Int.reduceLT, Nat.reduceAdd, Nat.reduceMul, f0, f19, f20, f21, Option.isSome_none, hb5, ho5, ch2, it0, it1, it2, hf1, hq1, hz, c0, hl0, aop_nc, tnc, ff_19]) | refine qqj rfl ?_ | refine qqk rfl ?_)
          (first | refine WK.retNil ⟨Or.inr rfl, _, rfl, ?_, ?_⟩ | refine WK.skipNil ⟨Or.inl rfl, _, rfl, ?_, ?_⟩)
          · exact kx5.keep
          · simp only [packed, fset_apply, Nat.reduceEqDiff, ↓reduceIte, List.getD_cons_zero, List.getD_cons_succ, ff_19]
            have : ps.any (accP g) = true := List.any_eq_true.2 ⟨_, List.getElem_mem hlt, by unfold accP; rw [hn, hlf, hl0, hf0]; rfl⟩
            rw [this]
        · simp (config := { maxSteps := 1000000 }) only [SS, qg0, qgb, qgl, qgs, qgi, qgf, qga, forall_const, tor, vun, Go.AM.splice, one, tlen2, tpick, textr, Int.reduceEq, Int.reduceNeg, Nat.reduceGT, Nat.reduceLT, Nat.reduceLeDiff, Nat.reduceEqDiff, ↓reduceIte, reduceCtorEq, Int.reduceToNat, Int.reduceLE, Int.reduceLT, Nat.reduceAdd, Nat.reduceMul, ff_19]
          repeat (first | apply qqa | apply qqb | apply qqc | apply qqd | apply qqe | apply qqf | apply qqg | apply qqh | refine qqi rfl ?_ | ((first | (refine WK.rgn ?_ ?_; kernel_rfl) | refine AtCall.now ?_); simp (config := { maxSteps := 1000000 }) only [SS, qg0, qgb, qgl, qgs, qgi, qgf, qga, forall_const, tor, vun, Go.AM.splice, one, tlen2, tpick, textr, Int.reduceEq, Int.reduceNeg, Nat.reduceGT, Nat.reduceLT, Nat.reduceLeDiff, Nat.reduceEqDiff, ↓reduceIte, reduceCtorEq, Int.reduceToNat, Int.reduceLE, Int.reduceLT, Nat.reduceAdd, Nat.reduceMul, f0, f19, f20, f21, Option.isSome_none, hb5, ho5, ch2, it0, it1, it2, hf1, hq1, hz, c0, hl0, hwj, aop_nc, tnc, ff_19]) | refine qqj rfl ?_ | refine qqk rfl ?_)
          refine ih (ps.length - (j + 1)) (by omega) _ ⟨j + 1, kx5, f0, f19, f20, ?_, hlt, go (by unfold accP; rw [hlf]; simp [hl0]), rfl⟩
          simp only [packed, fset_apply, Nat.reduceEqDiff, ↓reduceIte, List.getD_cons_zero, List.getD_cons_succ, f21, hwj, ff_19]
      · have hf1 : ((ps[j].2.2 : Int) = 0) = False := by simp; omega
        simp (config := { maxSteps := 1000000 }) only [SS, qg0, qgb, qgl, qgs, qgi, qgf, qga, forall_const, tor, vun, Go.AM.splice, one, tlen2, tpick, textr, Int.reduceEq, Int.reduceNeg, Nat.reduceGT, Nat.reduceLT, Nat.reduceLeDiff, Nat.reduceEqDiff, ↓reduceIte, reduceCtorEq, Int.reduceToNat, Int.reduceLE, Int.reduceLT, Nat.reduceAdd, Nat.reduceMul, ff_19]
        repeat (first | apply qqa | apply qqb | apply qqc | apply qqd | apply qqe | apply qqf | apply qqg | apply qqh | refine qqi rfl ?_ | ((first | (refine WK.rgn ?_ ?_; kernel_rfl) | refine AtCall.now ?_); simp (config := { maxSteps := 1000000 }) only [SS, qg0, qgb, qgl, qgs, qgi, qgf, qga, forall_const, tor, vun, Go.AM.splice, one, tlen2, tpick, textr, Int.reduceEq, Int.reduceNeg, Nat.reduceGT, Nat.reduceLT, Nat.reduceLeDiff, Nat.reduceEqDiff, ↓reduceIte, reduceCtorEq, Int.reduceToNat, Int.reduceLE, Int.reduceLT, Nat.reduceAdd, Nat.reduceMul, f0, f19, f20, f21, Option.isSome_none, hb5, it0, it1, it2, hf1, hwj, ff_19]) | refine qqj rfl ?_ | refine qqk rfl ?_)
        refine ih (ps.length - (j + 1)) (by omega) _ ⟨j + 1, kx5, f0, f19, f20, ?_, hlt, go (by unfold accP; simp [hf0]), rfl⟩
        simp only [packed, fset_apply, Nat.reduceEqDiff, ↓reduceIte, List.getD_cons_zero, List.getD_cons_succ, f21, hwj, ff_19]
  · repeat (first | apply qqa | apply qqb | apply qqc | apply qqd | apply qqe | apply qqf | apply qqg | apply qqh | refine qqi rfl ?_ | ((first | (refine WK.rgn ?_ ?_; kernel_rfl) | refine AtCall.now ?_); simp (config := { maxSteps := 1000000 }) only [SS, qg0, qgb, qgl, qgs, qgi, qgf, qga, forall_const, tor, vun, Go.AM.splice, one, tlen2, tpick, textr, Int.reduceEq, Int.reduceNeg, Nat.reduceGT, Nat.reduceLT, Nat.reduceLeDiff, Nat.reduceEqDiff, ↓reduceIte, reduceCtorEq, Int.reduceToNat, Int.reduceLE, Int.reduceLT, Nat.reduceAdd, Nat.reduceMul, f0, f19, f20, f21, hlt, ff_19]) | refine qqj rfl ?_ | refine qqk rfl ?_)
    (first | refine WK.retNil ⟨Or.inr rfl, _, rfl, ?_, ?_⟩ | refine WK.skipNil ⟨Or.inl rfl, _, rfl, ?_, ?_⟩)
    · exact kx.keep
    · simp only [packed, fset_apply, Nat.reduceEqDiff, ↓reduceIte, List.getD_cons_zero, List.getD_cons_succ, ff_19]
      rw [List.take_of_length_le (by omega)] at hn3
      rw [hn3]
end Go.Proofs.Ytpdlmpbhohinpaa
