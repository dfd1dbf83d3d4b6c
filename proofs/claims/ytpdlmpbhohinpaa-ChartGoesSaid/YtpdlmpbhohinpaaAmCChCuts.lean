/- A part of a proof. Its conditions: none. -/
import Derived.Test.YtpdlmpbhohinpaaAmCChPush
import Derived.Test.YtpdlmpbhohinpaaAmCChNew
import Derived.Test.YtpdlmpbhohinpaaAmCLfRight
import Derived.Test.YtpdlmpbhohinpaaAmCFacts
import Derived.Test.YtpdlmpbhohinpaaAmC
import Derived.Test.YtpdlmpbhohinpaaAmD
set_option linter.all false
namespace Go.Proofs.Ytpdlmpbhohinpaa
open Go.AM Go.RowKit
set_option maxRecDepth 100000
def accP (g : Gram) (x : It) : Bool := (nx g x).isNone && decide (x.2.2 = 0) && decide (lft g x.1 = 0)
set_option maxHeartbeats 8000000 in
theorem accm_gives {S H : Heap} {N o y x n : Nat} {pt pv pr pg pe pc : Option Addr} {g : Gram} {gd em : List Bool} {co : List Nat} {sets : List (List It)} {w : List Int} (st : Stat S N pr pg pe pc g gd em co) (hw : WF n H) (hS : Sub S H)
    (hc : CHR H N o y x pt pv pr pg pe pc g gd em co sets w) (hk : okS g sets) (ha : sets.length ≤ 4000) :
    Gives Try.prog 19 [.pointer (some ⟨o, 0, none⟩)] n H fun v _ _ => v = .bool (accB g sets) := by
  refine Gives.of orders ok19 (Nat.le_of_ble_eq_true rfl) ?_
  obtain ⟨c, wv, cs, ho, hyN, hy, hyl, hsr, hwv⟩ := id hc
  have low : ∀ {z cs ty own}, H z = .cells cs ty own → z < n := fun {z cs ty own} e => Classical.byContradiction fun hc => by rw [hw z (by omega)] at e; cases e
  have hon := low ho
  have hs0 := List.length_pos_iff.2 hk.1
  have hsl : sets.length - 1 < sets.length := by omega
  obtain ⟨pp, hpp, hlr⟩ := hsr _ hsl
  have hlast : lastS sets = sets[sets.length - 1] := by unfold lastS; rw [List.getD_eq_getElem?_getD, List.getElem?_eq_getElem hsl]; rfl
  have hlok := lastS_ok hk
  have hacc : accB g sets = (lastS sets).any (accP g) := rfl
  rw [← hlast] at hpp hlr
  rw [hacc]
  generalize hps : lastS sets = ps at *
  repeat (first | apply qqa | apply qqb | apply qqc | apply qqd | apply qqe | apply qqf | apply qqg | apply qqh | refine qqi rfl ?_)
  have hsub : IntKind.wrap .i64 ((sets.length : Int) - 1) = ((sets.length - 1 : Nat) : Int) := by rw [wrap_in (by omega) (by omega)]; omega
  repeat (first | apply qqa | apply qqb | apply qqc | apply qqd | apply qqe | apply qqf | apply qqg | apply qqh | refine qqi rfl ?_ | ((first | (refine WK.rgn ?_ ?_; kernel_rfl) | refine AtCall.now ?_); simp (config := { maxSteps := 1000000 }) only [SS, qg0, qgb, qgl, qgs, qgi, qgf, qga, forall_const, tor, vun, Go.AM.splice, one, tlen2, tpick, textr, Int.reduceEq, Int.reduceNeg, Nat.reduceGT, Nat.reduceLT, Nat.reduceLeDiff, Nat.reduceEqDiff, ↓reduceIte, reduceCtorEq, Int.reduceToNat, Int.reduceLE, Int.reduceLT, Nat.reduceAdd, Nat.reduceMul, ho, ch6, hy, hsub, hsl, hpp, aop_nc, tnc, ff_19]) | refine qqj rfl ?_ | refine qqk rfl ?_)
  refine WK.loop (fun k2 s => ∃ j : Nat, Kp n H s.n s.H ∧ s.f 0 = .pointer (some ⟨o, 0, none⟩) ∧ s.f 19 = .slice pp ps.length ps.length ∧ s.f 20 = .int .i64 (ps.length : Nat) ∧ s.f 21 = .int .i64 (j : Nat) ∧ j ≤ ps.length ∧ (ps.take j).any (accP g) = false ∧ k2 = ps.length - j) ps.length ?_ ?_
  · exact ⟨0, .refl _ _, rfl, rfl, rfl, rfl, Nat.zero_le _, rfl, rfl⟩
  rintro kk ⟨f, n3, H3⟩ ⟨j, kx, f0, f19, f20, f21, hj, hn3, rfl⟩ ih
  simp only at f0 f19 f20 f21 kx ih
  have hw3 := kx.wf hw
  have hS3 := hS.kp hw kx
  have ho3 := (kx.keep o hon).trans ho
  have hpl := hlok.len
  have hB := bndI_le (at_ := sets.length - 1) st.rl st.r8
  by_cases hlt : j < ps.length
  · obtain ⟨zp, op, rfl, hzp, e3, e4⟩ := (hlr.rk (kx.rk hw)).at hlt
    have hk4 := Kp.new n3 H3 (.cells (itC ps[j]) 74 true)
    have hb4 := hset_at H3 n3 (.cells (itC ps[j]) 74 true)
    have hle := kx.le
    have ho4 := (hk4.keep o (by omega)).trans ho3
    have hS4 := hS3.kp hw3 hk4
    have hw4 := hk4.wf hw3
    have kx4 := kx.trans hk4
    generalize hE : hset H3 n3 (.cells (itC ps[j]) 74 true) = H4 at *
    repeat (first | apply qqa | apply qqb | apply qqc | apply qqd | apply qqe | apply qqf | apply qqg | apply qqh | refine qqi rfl ?_ | ((first | (refine WK.rgn ?_ ?_; kernel_rfl) | refine AtCall.now ?_); simp (config := { maxSteps := 1000000 }) only [SS, qg0, qgb, qgl, qgs, qgi, qgf, qga, forall_const, tor, vun, Go.AM.splice, one, tlen2, tpick, textr, Int.reduceEq, Int.reduceNeg, Nat.reduceGT, Nat.reduceLT, Nat.reduceLeDiff, Nat.reduceEqDiff, ↓reduceIte, reduceCtorEq, Int.reduceToNat, Int.reduceLE, Int.reduceLT, Nat.reduceAdd, Nat.reduceMul, f0, f19, f20, f21, hlt, hzp, e3, e4, itvc, itone, itsp, itle, ittk, itag, hb4, hE, ff_19]) | refine qqj rfl ?_ | refine qqk rfl ?_)
    obtain ⟨hq1, hq2, hq3⟩ := hlok.ok _ (List.getElem_mem hlt)
    refine AtCall.by (next_gives st hw4 hS4 ho4 hq1 hq2) ?_
    rintro wq n5 H5 hk5 rfl
    have hb5 := (hk5.keep n3 (by omega)).trans hb4
    have ho5 := (hk5.keep o (by omega)).trans ho4
    have hS5 := hS4.kp hw4 hk5
    have kx5 := kx4.trans hk5
    have hwj : IntKind.wrap .i64 ((j : Int) + 1) = ((j + 1 : Nat) : Int) := by rw [wrap_in (by omega) (by omega)]; rfl
    have htj : ps.take (j + 1) = ps.take j ++ [ps[j]] := List.take_succ_eq_append_getElem hlt
    have go : accP g ps[j] = false → (ps.take (j + 1)).any (accP g) = false := fun h => by rw [htj, List.any_append, hn3]; simp [h]
    cases hn : nx g ps[j] with
    | some y0 =>
      simp (config := { maxSteps := 1000000 }) only [SS, qg0, qgb, qgl, qgs, qgi, qgf, qga, forall_const, tor, vun, Go.AM.splice, one, tlen2, tpick, textr, Int.reduceEq, Int.reduceNeg, Nat.reduceGT, Nat.reduceLT, Nat.reduceLeDiff, Nat.reduceEqDiff, ↓reduceIte, reduceCtorEq, Int.reduceToNat, Int.reduceLE, Int.reduceLT, Nat.reduceAdd, Nat.reduceMul, ff_19]
      repeat (first | apply qqa | apply qqb | apply qqc | apply qqd | apply qqe | apply qqf | apply qqg | apply qqh | refine qqi rfl ?_ | ((first | (refine WK.rgn ?_ ?_; kernel_rfl) | refine AtCall.now ?_); simp (config := { maxSteps := 1000000 }) only [SS, qg0, qgb, qgl, qgs, qgi, qgf, qga, forall_const, tor, vun, Go.AM.splice, one, tlen2, tpick, textr, Int.reduceEq, Int.reduceNeg, Nat.reduceGT, Nat.reduceLT, Nat.reduceLeDiff, Nat.reduceEqDiff, ↓reduceIte, reduceCtorEq, Int.reduceToNat, Int.reduceLE, Int.reduceLT, Nat.reduceAdd, Nat.reduceMul, f0, f19, f20, f21, Option.isSome_some, hwj, ff_19]) | refine qqj rfl ?_ | refine qqk rfl ?_)
      refine ih (ps.length - (j + 1)) (by omega) _ ⟨j + 1, kx5, f0, f19, f20, ?_, hlt, go (by unfold accP; rw [hn]; rfl), rfl⟩
      simp only [packed, fset_apply, Nat.reduceEqDiff, ↓reduceIte, List.getD_cons_zero, List.getD_cons_succ, f21, hwj, ff_19]
    | none =>
      by_cases hf0 : ps[j].2.2 = 0
      · have hf1 : ((ps[j].2.2 : Int) = 0) = True := by rw [hf0]; simp
        obtain ⟨z, kz, ds, tz, oz, p, rfl, hz, c0, c1, c2, hpp2⟩ := (st.rr.sub hS5).at hq1
        have hlf := lft_at hq1
        by_cases hl0 : g.rules[ps[j].1].left = 0
        · simp (config := { maxSteps := 1000000 }) only [SS, qg0, qgb, qgl, qgs, qgi, qgf, qga, forall_const, tor, vun, Go.AM.splice, one, tlen2, tpick, textr, Int.reduceEq, Int.reduceNeg, Nat.reduceGT, Nat.reduceLT, Nat.reduceLeDiff, Nat.reduceEqDiff, ↓reduceIte, reduceCtorEq, Int.reduceToNat, Int.reduceLE, Int.reduceLT, Nat.reduceAdd, Nat.reduceMul, ff_19]
          repeat (first | apply qqa | apply qqb | apply qqc | apply qqd | apply qqe | apply qqf | apply qqg | apply qqh | refine qqi rfl ?_ | ((first | (refine WK.rgn ?_ ?_; kernel_rfl) | refine AtCall.now ?_); simp (config := { maxSteps := 1000000 }) only [SS, qg0, qgb, qgl, qgs, qgi, qgf, qga, forall_const, tor, vun, Go.AM.splice, one, tlen2, tpick, textr, Int.reduceEq, Int.reduceNeg, Nat.reduceGT, Nat.reduceLT, Nat.reduceLeDiff, Nat.reduceEqDiff, ↓reduceIte, reduceCtorEq, Int.reduceToNat, Int.reduceLE, Int.reduceLT, Nat.reduceAdd, Nat.reduceMul, f0, f19, f20, f21, Option.isSome_none, hb5, ho5, ch2, it0, it1, it2, hf1, hq1, hz, c0, hl0, aop_nc, tnc, ff_19]) | refine qqj rfl ?_ | refine qqk rfl ?_)
          (first | refine WK.retNil ⟨Or.inr rfl, _, rfl, ?_, ?_⟩ | refine WK.skipNil ⟨Or.inl rfl, _, rfl, ?_, ?_⟩)
          · exact kx5.keep
          · simp only [packed, fset_apply, Nat.reduceEqDiff, ↓reduceIte, List.getD_cons_zero, List.getD_cons_succ, ff_19]
            have : ps.any (accP g) = true := List.any_eq_true.2 ⟨_, List.getElem_mem hlt, by unfold accP; rw [hn, hlf, hl0, hf0]; rfl⟩
            rw [this]
        · simp (config := { maxSteps := 1000000 }) only [SS, qg0, qgb, qgl, qgs, qgi, qgf, qga, forall_const, tor, vun, Go.AM.splice, one, tlen2, tpick, textr, Int.reduceEq, Int.reduceNeg, Nat.reduceGT, Nat.reduceLT, Nat.reduceLeDiff, Nat.reduceEqDiff, ↓reduceIte, reduceCtorEq, Int.reduceToNat, Int.reduceLE, Int.reduceLT, Nat.reduceAdd, Nat.reduceMul, ff_19]
          repeat (first | apply qqa | apply qqb | apply qqc | apply qqd | apply qqe | apply qqf | apply qqg | apply qqh | refine qqi rfl ?_ | ((first | (refine WK.rgn ?_ ?_; kernel_rfl) | refine AtCall.now ?_); simp (config := { maxSteps := 1000000 }) only [SS, qg0, qgb, qgl, qgs, qgi, qgf, qga, forall_const, tor, vun, Go.AM.splice, one, tlen2, tpick, textr, Int.reduceEq, Int.reduceNeg, Nat.reduceGT, Nat.reduceLT, Nat.reduceLeDiff, Nat.reduceEqDiff, ↓reduceIte, reduceCtorEq, Int.reduceToNat, Int.reduceLE, Int.reduceLT, Nat.reduceAdd, Nat.reduceMul, f0, f19, f20, f21, Option.isSome_none, hb5, ho5, ch2, it0, it1, it2, hf1, hq1, hz, c0, hl0, hwj, aop_nc, tnc, ff_19]) | refine qqj rfl ?_ | refine qqk rfl ?_)
          refine ih (ps.length - (j + 1)) (by omega) _ ⟨j + 1, kx5, f0, f19, f20, ?_, hlt, go (by unfold accP; rw [hlf]; simp [hl0]), rfl⟩
          simp only [packed, fset_apply, Nat.reduceEqDiff, ↓reduceIte, List.getD_cons_zero, List.getD_cons_succ, f21, hwj, ff_19]
      · have hf1 : ((ps[j].2.2 : Int) = 0) = False := by simp; omega
        simp (config := { maxSteps := 1000000 }) only [SS, qg0, qgb, qgl, qgs, qgi, qgf, qga, forall_const, tor, vun, Go.AM.splice, one, tlen2, tpick, textr, Int.reduceEq, Int.reduceNeg, Nat.reduceGT, Nat.reduceLT, Nat.reduceLeDiff, Nat.reduceEqDiff, ↓reduceIte, reduceCtorEq, Int.reduceToNat, Int.reduceLE, Int.reduceLT, Nat.reduceAdd, Nat.reduceMul, ff_19]
        repeat (first | apply qqa | apply qqb | apply qqc | apply qqd | apply qqe | apply qqf | apply qqg | apply qqh | refine qqi rfl ?_ | ((first | (refine WK.rgn ?_ ?_; kernel_rfl) | refine AtCall.now ?_); simp (config := { maxSteps := 1000000 }) only [SS, qg0, qgb, qgl, qgs, qgi, qgf, qga, forall_const, tor, vun, Go.AM.splice, one, tlen2, tpick, textr, Int.reduceEq, Int.reduceNeg, Nat.reduceGT, Nat.reduceLT, Nat.reduceLeDiff, Nat.reduceEqDiff, ↓reduceIte, reduceCtorEq, Int.reduceToNat, Int.reduceLE, Int.reduceLT, Nat.reduceAdd, Nat.reduceMul, f0, f19, f20, f21, Option.isSome_none, hb5, it0, it1, it2, hf1, hwj, ff_19]) | refine qqj rfl ?_ | refine qqk rfl ?_)
        refine ih (ps.length - (j + 1)) (by omega) _ ⟨j + 1, kx5, f0, f19, f20, ?_, hlt, go (by unfold accP; simp [hf0]), rfl⟩
        simp only [packed, fset_apply, Nat.reduceEqDiff, ↓reduceIte, List.getD_cons_zero, List.getD_cons_succ, f21, hwj, ff_19]
  · repeat (first | apply qqa | apply qqb | apply qqc | apply qqd | apply qqe | apply qqf | apply qqg | apply qqh | refine qqi rfl ?_ | ((first | (refine WK.rgn ?_ ?_; kernel_rfl) | refine AtCall.now ?_); simp (config := { maxSteps := 1000000 }) only [SS, qg0, qgb, qgl, qgs, qgi, qgf, qga, forall_const, tor, vun, Go.AM.splice, one, tlen2, tpick, textr, Int.reduceEq, Int.reduceNeg, Nat.reduceGT, Nat.reduceLT, Nat.reduceLeDiff, Nat.reduceEqDiff, ↓reduceIte, reduceCtorEq, Int.reduceToNat, Int.reduceLE, Int.reduceLT, Nat.reduceAdd, Nat.reduceMul, f0, f19, f20, f21, hlt, ff_19]) | refine qqj rfl ?_ | refine qqk rfl ?_)
    (first | refine WK.retNil ⟨Or.inr rfl, _, rfl, ?_, ?_⟩ | refine WK.skipNil ⟨Or.inl rfl, _, rfl, ?_, ?_⟩)
    · exact kx.keep
    · simp only [packed, fset_apply, Nat.reduceEqDiff, ↓reduceIte, List.getD_cons_zero, List.getD_cons_succ, ff_19]
      rw [List.take_of_length_le (by omega)] at hn3
      rw [hn3]
end Go.Proofs.Ytpdlmpbhohinpaa

namespace Go.Proofs.Ytpdlmpbhohinpaa
open Go.AM Go.RowKit
set_option maxRecDepth 100000
theorem accW_cons {g : Gram} {gd em : List Bool} (s : List (List It)) (t : Int) (w : List Int) : accW g gd em s (t :: w) = match pushS g gd em s t with | none => false | some s' => accW g gd em s' w := rfl
set_option maxHeartbeats 8000000 in
theorem accepts_gives {g : Gram} {n : Nat} {H : Heap} {v : Value} {w : List Int} {a : Option Addr} (hw : WF n H) (hg : RG H v g) (wg : WG g) (ok : RightOK g) (hf : few g = true) (ha : RA (Value.int .i64) H a w) (hwl : w.length ≤ 3900) (hi : ∀ t ∈ w, inI t) :
    Gives Try.prog 17 [v, .slice a w.length w.length] n H fun r _ _ => r = .bool (accW g (gdG g) (emG g) (newS g (gdG g) (emG g)) w) := by
  have hg0 := hg
  obtain ⟨pt0, pv0, pr0, rfl, ht, hv, hr⟩ := hg
  refine Gives.of orders ok17 (Nat.le_of_ble_eq_true rfl) ?_
  have hk := Kp.new n H (.cells (gcells pt0 pv0 pr0 g) 25 true)
  have hb := hset_at H n (.cells (gcells pt0 pv0 pr0 g) 25 true)
  have hw1 := hk.wf hw
  have hg1 := hg0.mono hw hk
  repeat (first | apply qqa | apply qqb | apply qqc | apply qqd | apply qqe | apply qqf | apply qqg | apply qqh | refine qqi rfl ?_)
  (refine WK.rgn ?_ ?_; kernel_rfl; simp (config := { maxSteps := 1000000 }) only [SS, qg0, qgb, qgl, qgi, forall_const, tor, vun, tlen2, tbox, one, Int.reduceEq, Int.reduceNeg, Nat.reduceGT, Nat.reduceLT, Nat.reduceLeDiff, Nat.reduceEqDiff, ↓reduceIte, reduceCtorEq, Int.reduceToNat, Int.reduceLE, Int.reduceLT, Nat.reduceAdd, Nat.reduceMul, box_cells, box_one, ff_17])
  generalize hset H n (.cells (gcells pt0 pv0 pr0 g) 25 true) = H1 at *
  repeat (first | apply qqa | apply qqb | apply qqc | apply qqd | apply qqe | apply qqf | apply qqg | apply qqh | refine qqi rfl ?_ | ((first | (refine WK.rgn ?_ ?_; kernel_rfl) | refine AtCall.now ?_); simp (config := { maxSteps := 1000000 }) only [SS, qg0, qgb, qgl, qgi, forall_const, tor, vun, tlen2, tbox, one, Int.reduceEq, Int.reduceNeg, Nat.reduceGT, Nat.reduceLT, Nat.reduceLeDiff, Nat.reduceEqDiff, ↓reduceIte, reduceCtorEq, Int.reduceToNat, Int.reduceLE, Int.reduceLT, Nat.reduceAdd, Nat.reduceMul, hb, gc_len, gc_all, ff_17]) | refine qqj rfl ?_ | refine qqk rfl ?_)
  refine AtCall.by (new_gives hw1 hg1 wg ok hf) ?_
  rintro v n2 H2 hk2 ⟨S, N, o, y, x, pt, pv, pr, pg, pe, pc, co, rfl, st, hso, hS2, hN2, hoN, hno, hny, hnx, hc2, _⟩
  have hw2 := hk2.wf hw1
  have k2 := hk.trans hk2
  simp (config := { maxSteps := 1000000 }) only [SS, qg0, qgb, qgl, qgi, forall_const, tor, vun, tlen2, tbox, one, Int.reduceEq, Int.reduceNeg, Nat.reduceGT, Nat.reduceLT, Nat.reduceLeDiff, Nat.reduceEqDiff, ↓reduceIte, reduceCtorEq, Int.reduceToNat, Int.reduceLE, Int.reduceLT, Nat.reduceAdd, Nat.reduceMul, ff_17]
  repeat (first | apply qqa | apply qqb | apply qqc | apply qqd | apply qqe | apply qqf | apply qqg | apply qqh | refine qqi rfl ?_ | ((first | (refine WK.rgn ?_ ?_; kernel_rfl) | refine AtCall.now ?_); simp (config := { maxSteps := 1000000 }) only [SS, qg0, qgb, qgl, qgi, forall_const, tor, vun, tlen2, tbox, one, Int.reduceEq, Int.reduceNeg, Nat.reduceGT, Nat.reduceLT, Nat.reduceLeDiff, Nat.reduceEqDiff, ↓reduceIte, reduceCtorEq, Int.reduceToNat, Int.reduceLE, Int.reduceLT, Nat.reduceAdd, Nat.reduceMul, ff_17]) | refine qqj rfl ?_ | refine qqk rfl ?_)
  refine WK.loop (fun k2 s => ∃ (j y x : Nat) (sets : List (List It)), Kx (fun z => z = o ∨ N ≤ z) n2 H2 s.n s.H ∧ s.f 5 = .pointer (some ⟨o, 0, none⟩) ∧ s.f 10 = .slice a w.length w.length ∧ s.f 11 = .int .i64 (w.length : Nat) ∧ s.f 12 = .int .i64 (j : Nat) ∧ j ≤ w.length ∧
    CHR s.H N o y x pt pv pr pg pe pc g (gdG g) (emG g) co sets (w.take j) ∧ okS g sets ∧ sets.length = j + 1 ∧ accW g (gdG g) (emG g) (newS g (gdG g) (emG g)) w = accW g (gdG g) (emG g) sets (w.drop j) ∧ k2 = w.length - j) w.length ?_ ?_
  · exact ⟨0, y, x, newS g (gdG g) (emG g), .refl _ _ _, rfl, rfl, rfl, rfl, Nat.zero_le _, hc2, okS.new, rfl, by simp, rfl⟩
  rintro kk ⟨f, n3, H3⟩ ⟨j, y3, x3, sets, kx, f5, f10, f11, f12, hj, hc3, hk3, hsl, hpr, rfl⟩ ih
  simp only at f5 f10 f11 f12 kx hc3 ih
  have hw3 := kx.wf hw2
  have hS3 := sub_kxo hS2 st.wf hso kx hN2
  have hle := kx.le
  have keepn : ∀ z, z < n → H3 z = H z := fun z hz => (kx.keep z (by have := k2.le; omega) (by omega)).trans (k2.keep z hz)
  by_cases hlt : j < w.length
  · have ha3 : RA (Value.int .i64) H3 a w := fun hne => by
      obtain ⟨q, k, cs, ty, own, c1, c2, c3⟩ := ha hne
      exact ⟨q, k, cs, ty, own, c1, (keepn q (Classical.byContradiction fun hc => by rw [hw q (by omega)] at c2; cases c2)).trans c2, c3⟩
    obtain ⟨zp, kp, dsp, tp, op, rfl, hzp, e3⟩ := ha3.at hlt
    have hwj : IntKind.wrap .i64 ((j : Int) + 1) = ((j + 1 : Nat) : Int) := by rw [wrap_in (by omega) (by omega)]; rfl
    repeat (first | apply qqa | apply qqb | apply qqc | apply qqd | apply qqe | apply qqf | apply qqg | apply qqh | refine qqi rfl ?_ | ((first | (refine WK.rgn ?_ ?_; kernel_rfl) | refine AtCall.now ?_); simp (config := { maxSteps := 1000000 }) only [SS, qg0, qgb, qgl, qgi, forall_const, tor, vun, tlen2, tbox, one, Int.reduceEq, Int.reduceNeg, Nat.reduceGT, Nat.reduceLT, Nat.reduceLeDiff, Nat.reduceEqDiff, ↓reduceIte, reduceCtorEq, Int.reduceToNat, Int.reduceLE, Int.reduceLT, Nat.reduceAdd, Nat.reduceMul, f5, f10, f11, f12, hlt, hzp, e3, ff_17]) | refine qqj rfl ?_ | refine qqk rfl ?_)
    refine AtCall.byX (push_gives (t := w[j]) st hso hw3 hS3 (by omega) hoN hc3 hk3 (by omega) (by rw [List.length_take]; omega) (hi _ (List.getElem_mem hlt))) ?_
    rintro v n4 H4 kx4 ⟨rfl, rc4, y4, x4, hc4, _, _⟩
    have hdr : w.drop j = w[j] :: w.drop (j + 1) := List.drop_eq_getElem_cons hlt
    have htj : w.take (j + 1) = w.take j ++ [w[j]] := List.take_succ_eq_append_getElem hlt
    rw [hdr, accW_cons] at hpr
    cases hpu : pushS g (gdG g) (emG g) sets w[j] with
    | none =>
      rw [hpu] at hpr
      simp (config := { maxSteps := 1000000 }) only [SS, qg0, qgb, qgl, qgi, forall_const, tor, vun, tlen2, tbox, one, Int.reduceEq, Int.reduceNeg, Nat.reduceGT, Nat.reduceLT, Nat.reduceLeDiff, Nat.reduceEqDiff, ↓reduceIte, reduceCtorEq, Int.reduceToNat, Int.reduceLE, Int.reduceLT, Nat.reduceAdd, Nat.reduceMul, Option.isSome_none, ff_17]
      repeat (first | apply qqa | apply qqb | apply qqc | apply qqd | apply qqe | apply qqf | apply qqg | apply qqh | refine qqi rfl ?_ | ((first | (refine WK.rgn ?_ ?_; kernel_rfl) | refine AtCall.now ?_); simp (config := { maxSteps := 1000000 }) only [SS, qg0, qgb, qgl, qgi, forall_const, tor, vun, tlen2, tbox, one, Int.reduceEq, Int.reduceNeg, Nat.reduceGT, Nat.reduceLT, Nat.reduceLeDiff, Nat.reduceEqDiff, ↓reduceIte, reduceCtorEq, Int.reduceToNat, Int.reduceLE, Int.reduceLT, Nat.reduceAdd, Nat.reduceMul, ff_17]) | refine qqj rfl ?_ | refine qqk rfl ?_)
      (first | refine WK.retNil ⟨Or.inr rfl, _, rfl, ?_, ?_⟩ | refine WK.skipNil ⟨Or.inl rfl, _, rfl, ?_, ?_⟩)
      · exact fun z hz => ((kx.trans kx4).keep z (by have := k2.le; omega) (by omega)).trans (k2.keep z hz)
      · simp only [packed, fset_apply, Nat.reduceEqDiff, ↓reduceIte, List.getD_cons_zero, List.getD_cons_succ, ff_17]
        rw [hpr]
    | some s' =>
      rw [hpu] at hpr hc4
      simp only [Option.getD_some, Option.isSome_some, if_true] at hc4
      rw [← htj] at hc4
      simp (config := { maxSteps := 1000000 }) only [SS, qg0, qgb, qgl, qgi, forall_const, tor, vun, tlen2, tbox, one, Int.reduceEq, Int.reduceNeg, Nat.reduceGT, Nat.reduceLT, Nat.reduceLeDiff, Nat.reduceEqDiff, ↓reduceIte, reduceCtorEq, Int.reduceToNat, Int.reduceLE, Int.reduceLT, Nat.reduceAdd, Nat.reduceMul, Option.isSome_some, ff_17]
      repeat (first | apply qqa | apply qqb | apply qqc | apply qqd | apply qqe | apply qqf | apply qqg | apply qqh | refine qqi rfl ?_ | ((first | (refine WK.rgn ?_ ?_; kernel_rfl) | refine AtCall.now ?_); simp (config := { maxSteps := 1000000 }) only [SS, qg0, qgb, qgl, qgi, forall_const, tor, vun, tlen2, tbox, one, Int.reduceEq, Int.reduceNeg, Nat.reduceGT, Nat.reduceLT, Nat.reduceLeDiff, Nat.reduceEqDiff, ↓reduceIte, reduceCtorEq, Int.reduceToNat, Int.reduceLE, Int.reduceLT, Nat.reduceAdd, Nat.reduceMul, f12, hwj, ff_17]) | refine qqj rfl ?_ | refine qqk rfl ?_)
      refine ih (w.length - (j + 1)) (by omega) _ ⟨j + 1, y4, x4, s', kx.trans kx4, f5, f10, f11, ?_, hlt, hc4, hk3.push hpu, by rw [pushS_len hpu]; omega, hpr, rfl⟩
      simp only [packed, fset_apply, Nat.reduceEqDiff, ↓reduceIte, List.getD_cons_zero, List.getD_cons_succ, f12, hwj, ff_17]
  · have hje : j = w.length := by omega
    repeat (first | apply qqa | apply qqb | apply qqc | apply qqd | apply qqe | apply qqf | apply qqg | apply qqh | refine qqi rfl ?_ | ((first | (refine WK.rgn ?_ ?_; kernel_rfl) | refine AtCall.now ?_); simp (config := { maxSteps := 1000000 }) only [SS, qg0, qgb, qgl, qgi, forall_const, tor, vun, tlen2, tbox, one, Int.reduceEq, Int.reduceNeg, Nat.reduceGT, Nat.reduceLT, Nat.reduceLeDiff, Nat.reduceEqDiff, ↓reduceIte, reduceCtorEq, Int.reduceToNat, Int.reduceLE, Int.reduceLT, Nat.reduceAdd, Nat.reduceMul, f5, f10, f11, f12, hlt, ff_17]) | refine qqj rfl ?_ | refine qqk rfl ?_)
    refine AtCall.by (accm_gives st hw3 hS3 hc3 hk3 (by omega)) ?_
    rintro v n4 H4 hk4 rfl
    simp (config := { maxSteps := 1000000 }) only [SS, qg0, qgb, qgl, qgi, forall_const, tor, vun, tlen2, tbox, one, Int.reduceEq, Int.reduceNeg, Nat.reduceGT, Nat.reduceLT, Nat.reduceLeDiff, Nat.reduceEqDiff, ↓reduceIte, reduceCtorEq, Int.reduceToNat, Int.reduceLE, Int.reduceLT, Nat.reduceAdd, Nat.reduceMul, ff_17]
    repeat (first | apply qqa | apply qqb | apply qqc | apply qqd | apply qqe | apply qqf | apply qqg | apply qqh | refine qqi rfl ?_ | ((first | (refine WK.rgn ?_ ?_; kernel_rfl) | refine AtCall.now ?_); simp (config := { maxSteps := 1000000 }) only [SS, qg0, qgb, qgl, qgi, forall_const, tor, vun, tlen2, tbox, one, Int.reduceEq, Int.reduceNeg, Nat.reduceGT, Nat.reduceLT, Nat.reduceLeDiff, Nat.reduceEqDiff, ↓reduceIte, reduceCtorEq, Int.reduceToNat, Int.reduceLE, Int.reduceLT, Nat.reduceAdd, Nat.reduceMul, ff_17]) | refine qqj rfl ?_ | refine qqk rfl ?_)
    (first | refine WK.retNil ⟨Or.inr rfl, _, rfl, ?_, ?_⟩ | refine WK.skipNil ⟨Or.inl rfl, _, rfl, ?_, ?_⟩)
    · exact fun z hz => (hk4.keep z (by have := k2.le; omega)).trans ((kx.keep z (by have := k2.le; omega) (by omega)).trans (k2.keep z hz))
    · simp only [packed, fset_apply, Nat.reduceEqDiff, ↓reduceIte, List.getD_cons_zero, List.getD_cons_succ, ff_17]
      rw [hpr, hje, List.drop_length]
      rfl
end Go.Proofs.Ytpdlmpbhohinpaa

namespace Go.Proofs.Ytpdlmpbhohinpaa
open Go.AM Go.RowKit
set_option maxRecDepth 100000
set_option maxHeartbeats 4000000 in
theorem few17_gives {g : Gram} {n : Nat} {H : Heap} {v : Value} (hw : WF n H) (hg : RG H v g) (wg : WG g) :
    Gives Try.prog 9 [v] n H fun r _ _ => ∃ t, r = .bool t ∧ (t = true → few g = true ∧ RightOK g) := by
  have hg0 := hg
  obtain ⟨pt0, pv0, pr0, rfl, ht, hv, hr⟩ := hg
  refine Gives.of orders ok9 (Nat.le_of_ble_eq_true rfl) ?_
  have hk := Kp.new n H (.cells (gcells pt0 pv0 pr0 g) 25 true)
  have hb := hset_at H n (.cells (gcells pt0 pv0 pr0 g) 25 true)
  have hw1 := hk.wf hw
  have hg1 := hg0.mono hw hk
  repeat (first | apply qqa | apply qqb | apply qqc | apply qqd | apply qqe | apply qqf | apply qqg | apply qqh | refine qqi rfl ?_)
  (refine WK.rgn ?_ ?_; kernel_rfl; simp (config := { maxSteps := 1000000 }) only [SS, qg0, qgl, forall_const, tpick, tbox, one, Int.reduceEq, Int.reduceNeg, Nat.reduceGT, Nat.reduceLT, Nat.reduceLeDiff, Nat.reduceEqDiff, ↓reduceIte, reduceCtorEq, Int.reduceToNat, Int.reduceLE, Int.reduceLT, Nat.reduceAdd, Nat.reduceMul, box_cells, box_one, ff_9])
  generalize hset H n (.cells (gcells pt0 pv0 pr0 g) 25 true) = H1 at *
  repeat (first | apply qqa | apply qqb | apply qqc | apply qqd | apply qqe | apply qqf | apply qqg | apply qqh | refine qqi rfl ?_ | ((first | (refine WK.rgn ?_ ?_; kernel_rfl) | refine AtCall.now ?_); simp (config := { maxSteps := 1000000 }) only [SS, qg0, qgl, forall_const, tpick, tbox, one, Int.reduceEq, Int.reduceNeg, Nat.reduceGT, Nat.reduceLT, Nat.reduceLeDiff, Nat.reduceEqDiff, ↓reduceIte, reduceCtorEq, Int.reduceToNat, Int.reduceLE, Int.reduceLT, Nat.reduceAdd, Nat.reduceMul, hb, gc_len, gc_all, ff_9]) | refine qqj rfl ?_ | refine qqk rfl ?_)
  refine AtCall.by (few_gives hw1 hg1 wg) ?_
  rintro v n2 H2 hk2 rfl
  have kk := hk.trans hk2
  cases hf : few g with
  | false =>
    simp (config := { maxSteps := 1000000 }) only [SS, qg0, qgl, forall_const, tpick, tbox, one, Int.reduceEq, Int.reduceNeg, Nat.reduceGT, Nat.reduceLT, Nat.reduceLeDiff, Nat.reduceEqDiff, ↓reduceIte, reduceCtorEq, Int.reduceToNat, Int.reduceLE, Int.reduceLT, Nat.reduceAdd, Nat.reduceMul, ff_9]
    repeat (first | apply qqa | apply qqb | apply qqc | apply qqd | apply qqe | apply qqf | apply qqg | apply qqh | refine qqi rfl ?_ | ((first | (refine WK.rgn ?_ ?_; kernel_rfl) | refine AtCall.now ?_); simp (config := { maxSteps := 1000000 }) only [SS, qg0, qgl, forall_const, tpick, tbox, one, Int.reduceEq, Int.reduceNeg, Nat.reduceGT, Nat.reduceLT, Nat.reduceLeDiff, Nat.reduceEqDiff, ↓reduceIte, reduceCtorEq, Int.reduceToNat, Int.reduceLE, Int.reduceLT, Nat.reduceAdd, Nat.reduceMul, ff_9]) | refine qqj rfl ?_ | refine qqk rfl ?_)
    (first | refine WK.retNil ⟨Or.inr rfl, _, rfl, ?_, ?_⟩ | refine WK.skipNil ⟨Or.inl rfl, _, rfl, ?_, ?_⟩)
    · exact kk.keep
    · simp only [packed, fset_apply, Nat.reduceEqDiff, ↓reduceIte, List.getD_cons_zero, List.getD_cons_succ, ff_9]
      exact ⟨false, rfl, fun h => by cases h⟩
  | true =>
    have hb2 := (hk2.keep n (by omega)).trans hb
    simp (config := { maxSteps := 1000000 }) only [SS, qg0, qgl, forall_const, tpick, tbox, one, Int.reduceEq, Int.reduceNeg, Nat.reduceGT, Nat.reduceLT, Nat.reduceLeDiff, Nat.reduceEqDiff, ↓reduceIte, reduceCtorEq, Int.reduceToNat, Int.reduceLE, Int.reduceLT, Nat.reduceAdd, Nat.reduceMul, hb2, gc_len, gc_all, ff_9]
    refine AtCall.by (right_gives (hk2.wf hw1) (hg0.mono hw kk) wg) ?_
    rintro v n3 H3 hk3 ⟨t, rfl, h⟩
    simp (config := { maxSteps := 1000000 }) only [SS, qg0, qgl, forall_const, tpick, tbox, one, Int.reduceEq, Int.reduceNeg, Nat.reduceGT, Nat.reduceLT, Nat.reduceLeDiff, Nat.reduceEqDiff, ↓reduceIte, reduceCtorEq, Int.reduceToNat, Int.reduceLE, Int.reduceLT, Nat.reduceAdd, Nat.reduceMul, ff_9]
    repeat (first | apply qqa | apply qqb | apply qqc | apply qqd | apply qqe | apply qqf | apply qqg | apply qqh | refine qqi rfl ?_ | ((first | (refine WK.rgn ?_ ?_; kernel_rfl) | refine AtCall.now ?_); simp (config := { maxSteps := 1000000 }) only [SS, qg0, qgl, forall_const, tpick, tbox, one, Int.reduceEq, Int.reduceNeg, Nat.reduceGT, Nat.reduceLT, Nat.reduceLeDiff, Nat.reduceEqDiff, ↓reduceIte, reduceCtorEq, Int.reduceToNat, Int.reduceLE, Int.reduceLT, Nat.reduceAdd, Nat.reduceMul, ff_9]) | refine qqj rfl ?_ | refine qqk rfl ?_)
    (first | refine WK.retNil ⟨Or.inr rfl, _, rfl, ?_, ?_⟩ | refine WK.skipNil ⟨Or.inl rfl, _, rfl, ?_, ?_⟩)
    · exact (kk.trans hk3).keep
    · simp only [packed, fset_apply, Nat.reduceEqDiff, ↓reduceIte, List.getD_cons_zero, List.getD_cons_succ, ff_9]
      exact ⟨t, rfl, h⟩
end Go.Proofs.Ytpdlmpbhohinpaa

namespace Go.Proofs.Ytpdlmpbhohinpaa
open Go.AM
set_option maxRecDepth 100000
theorem alive_ev : (evCallT Try.prog (fun g => fns.contains g) 20000 0 8 [] (ngl Try.prog) (.bare 14 0)).map (·.1) = some (.bool true) := by kernel_rfl
theorem alive_gives (n : Nat) (H : Heap) : Gives Try.prog 8 [] n H fun v n' H' => v = .bool true ∧ n' = n ∧ H' = H := by
  have h := alive_ev
  cases he : evCallT Try.prog (fun g => fns.contains g) 20000 0 8 [] (ngl Try.prog) (.bare 14 0) with
  | none => rw [he] at h; cases h
  | some r =>
    obtain ⟨v, n1, H1⟩ := r
    rw [he] at h
    simp only [Option.map_some, Option.some.injEq] at h
    subst h
    obtain ⟨h1, _⟩ := evCall_sound orders (fnOK_of fns_ok) 20000 _ _ _ _ _ _ _ _ (evCallT_sound he)
    exact ⟨.bool true, n, H, .closed h1 (fun _ _ => rfl) (fun x hx => absurd rfl hx), Kp.refl n H, rfl, rfl, rfl⟩
end Go.Proofs.Ytpdlmpbhohinpaa

namespace Go.Proofs.Ytpdlmpbhohinpaa
open Go.AM
set_option maxRecDepth 100000
theorem und_22 : Try.prog.underlying 22 = some (.slice 9) := by kernel_rfl
theorem und_23 : Try.prog.underlying 23 = some (.slice 55) := by kernel_rfl
theorem und_25 : ∃ f1 f2 f3 : Field, Try.prog.underlying 25 = some (.struct #[f1, f2, f3]) ∧ f1.type = 22 ∧ f1.offset = 0 ∧ f2.type = 22 ∧ f2.offset = 1 ∧ f3.type = 23 ∧ f3.offset = 2 :=
  ⟨{ name := "Terms", type := 22, offset := 0, embedded := false, tag := "", pkgPath := "", byteOffset := 0 }, { name := "Vars", type := 22, offset := 1, embedded := false, tag := "", pkgPath := "", byteOffset := 24 },
    { name := "Rules", type := 23, offset := 2, embedded := false, tag := "", pkgPath := "", byteOffset := 48 }, by kernel_rfl, rfl, rfl, rfl, rfl, rfl, rfl⟩
theorem und_55 : ∃ f1 f2 f3 : Field, Try.prog.underlying 55 = some (.struct #[f1, f2, f3]) ∧ f1.type = 3 ∧ f1.offset = 0 ∧ f2.type = 26 ∧ f2.offset = 1 ∧ f3.type = 53 ∧ f3.offset = 2 :=
  ⟨{ name := "Left", type := 3, offset := 0, embedded := false, tag := "", pkgPath := "", byteOffset := 0 }, { name := "Right", type := 26, offset := 1, embedded := false, tag := "", pkgPath := "", byteOffset := 8 },
    { name := "Weight", type := 53, offset := 2, embedded := false, tag := "", pkgPath := "", byteOffset := 32 }, by kernel_rfl, rfl, rfl, rfl, rfl, rfl, rfl⟩
theorem gramT : GramT Try.prog 25 55 3 9 22 23 26 53 := ⟨und_25, und_55, und_3, und_9, und_22, und_23, und_26, und_53, csz_3, csz_9, csz_22, csz_23, csz_26, csz_53, csz_55, csz_25⟩
theorem own : ownKnob Try.prog.godebug = none := by kernel_rfl
theorem laid : laidOutB Try.prog = true := by kernel_rfl
theorem plain_all : ([25, 3, 26].all fun t => plainT Try.prog 10 t && Try.prog.readableRec t && decide (t < Try.prog.types.size)) = true := by kernel_rfl
theorem plain_of {t : TypeId} (h : t ∈ [25, 3, 26]) : plainT Try.prog 10 t = true ∧ Try.prog.readableRec t = true ∧ t < Try.prog.types.size := by
  have := List.all_eq_true.1 plain_all t h
  simp only [Bool.and_eq_true, decide_eq_true_eq] at this
  exact ⟨this.1.1, this.1.2, this.2⟩
end Go.Proofs.Ytpdlmpbhohinpaa

namespace Go.Proofs.Ytpdlmpbhohinpaa
open Go.AM Go.RowKit
set_option maxRecDepth 100000
theorem inf_int : (Try.prog.info? 3).isSome = true := by kernel_rfl
def AO (H : Heap) (p : Option Addr) : Prop := ∀ x k sp, p = some ⟨x, k, sp⟩ → ∀ cs ty own, H x = .cells cs ty own → own = false
end Go.Proofs.Ytpdlmpbhohinpaa
