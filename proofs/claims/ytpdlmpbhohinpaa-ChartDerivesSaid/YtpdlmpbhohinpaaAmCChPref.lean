/- A part of a proof. Its conditions: none. -/
import Derived.Test.YtpdlmpbhohinpaaAmCChNew
import Derived.Test.YtpdlmpbhohinpaaAmCChAcc
set_option linter.all false
namespace Go.Proofs.Ytpdlmpbhohinpaa
open Go.AM Go.RowKit
set_option maxRecDepth 100000
theorem prefS_cons {g : Gram} {gd em : List Bool} (s : List (List It)) (t : Int) (w : List Int) : prefS g gd em s (t :: w) = match pushS g gd em s t with | none => 0 | some s' => prefS g gd em s' w + 1 := rfl
theorem accW_cons {g : Gram} {gd em : List Bool} (s : List (List It)) (t : Int) (w : List Int) : accW g gd em s (t :: w) = match pushS g gd em s t with | none => false | some s' => accW g gd em s' w := rfl
set_option maxHeartbeats 8000000 in
theorem prefix_gives {g : Gram} {n : Nat} {H : Heap} {v : Value} {w : List Int} {a : Option Addr} (hw : WF n H) (hg : RG H v g) (wg : WG g) (ok : RightOK g) (hf : few g = true) (ha : RA (Value.int .i64) H a w) (hwl : w.length ≤ 3900) (hi : ∀ t ∈ w, inI t) :
    Gives Try.prog 16 [v, .slice a w.length w.length] n H fun r _ _ => r = .int .i64 (prefS g (gdG g) (emG g) (newS g (gdG g) (emG g)) w : Nat) := by
  have hg0 := hg
  obtain ⟨pt0, pv0, pr0, rfl, ht, hv, hr⟩ := hg
  refine Gives.of orders ok16 (Nat.le_of_ble_eq_true rfl) ?_
  have hk := Kp.new n H (.cells (gcells pt0 pv0 pr0 g) 25 true)
  have hb := hset_at H n (.cells (gcells pt0 pv0 pr0 g) 25 true)
  have hw1 := hk.wf hw
  have hg1 := hg0.mono hw hk
  repeat (first | apply qqa | apply qqb | apply qqc | apply qqd | apply qqe | apply qqf | apply qqg | apply qqh | refine qqi rfl ?_)
  (refine WK.rgn ?_ ?_; kernel_rfl; simp (config := { maxSteps := 1000000 }) only [SS, qg0, qgb, qgl, qgi, forall_const, tor, vun, tlen2, tbox, one, Int.reduceEq, Int.reduceNeg, Nat.reduceGT, Nat.reduceLT, Nat.reduceLeDiff, Nat.reduceEqDiff, ↓reduceIte, reduceCtorEq, Int.reduceToNat, Int.reduceLE, Int.reduceLT, Nat.reduceAdd, Nat.reduceMul, box_cells, box_one, ff_16])
  generalize hset H n (.cells (gcells pt0 pv0 pr0 g) 25 true) = H1 at *
  repeat (first | apply qqa | apply qqb | apply qqc | apply qqd | apply qqe | apply qqf | apply qqg | apply qqh | refine qqi rfl ?_ | ((first | (refine WK.rgn ?_ ?_; kernel_rfl) | refine AtCall.now ?_); simp (config := { maxSteps := 1000000 }) only [SS, qg0, qgb, qgl, qgi, forall_const, tor, vun, tlen2, tbox, one, Int.reduceEq, Int.reduceNeg, Nat.reduceGT, Nat.reduceLT, Nat.reduceLeDiff, Nat.reduceEqDiff, ↓reduceIte, reduceCtorEq, Int.reduceToNat, Int.reduceLE, Int.reduceLT, Nat.reduceAdd, Nat.reduceMul, hb, gc_len, gc_all, ff_16]) | refine qqj rfl ?_ | refine qqk rfl ?_)
  refine AtCall.by (new_gives hw1 hg1 wg ok hf) ?_
  rintro v n2 H2 hk2 ⟨S, N, o, y, x, pt, pv, pr, pg, pe, pc, co, rfl, st, hso, hS2, hN2, hoN, hno, hny, hnx, hc2, _⟩
  have hw2 := hk2.wf hw1
  have k2 := hk.trans hk2
  simp (config := { maxSteps := 1000000 }) only [SS, qg0, qgb, qgl, qgi, forall_const, tor, vun, tlen2, tbox, one, Int.reduceEq, Int.reduceNeg, Nat.reduceGT, Nat.reduceLT, Nat.reduceLeDiff, Nat.reduceEqDiff, ↓reduceIte, reduceCtorEq, Int.reduceToNat, Int.reduceLE, Int.reduceLT, Nat.reduceAdd, Nat.reduceMul, ff_16]
  repeat (first | apply qqa | apply qqb | apply qqc | apply qqd | apply qqe | apply qqf | apply qqg | apply qqh | refine qqi rfl ?_ | ((first | (refine WK.rgn ?_ ?_; kernel_rfl) | refine AtCall.now ?_); simp (config := { maxSteps := 1000000 }) only [SS, qg0, qgb, qgl, qgi, forall_const, tor, vun, tlen2, tbox, one, Int.reduceEq, Int.reduceNeg, Nat.reduceGT, Nat.reduceLT, Nat.reduceLeDiff, Nat.reduceEqDiff, ↓reduceIte, reduceCtorEq, Int.reduceToNat, Int.reduceLE, Int.reduceLT, Nat.reduceAdd, Nat.reduceMul, ff_16]) | refine qqj rfl ?_ | refine qqk rfl ?_)
  refine WK.loop (fun k2 s => ∃ (j y x : Nat) (sets : List (List It)), Kx (fun z => z = o ∨ N ≤ z) n2 H2 s.n s.H ∧ s.f 1 = .slice a w.length w.length ∧ s.f 5 = .pointer (some ⟨o, 0, none⟩) ∧ s.f 10 = .slice a w.length w.length ∧ s.f 11 = .int .i64 (w.length : Nat) ∧ s.f 12 = .int .i64 (j : Nat) ∧ j ≤ w.length ∧
    CHR s.H N o y x pt pv pr pg pe pc g (gdG g) (emG g) co sets (w.take j) ∧ okS g sets ∧ sets.length = j + 1 ∧ prefS g (gdG g) (emG g) (newS g (gdG g) (emG g)) w = j + prefS g (gdG g) (emG g) sets (w.drop j) ∧ k2 = w.length - j) w.length ?_ ?_
  · exact ⟨0, y, x, newS g (gdG g) (emG g), .refl _ _ _, rfl, rfl, rfl, rfl, rfl, Nat.zero_le _, hc2, okS.new, rfl, by simp, rfl⟩
  rintro kk ⟨f, n3, H3⟩ ⟨j, y3, x3, sets, kx, f1, f5, f10, f11, f12, hj, hc3, hk3, hsl, hpr, rfl⟩ ih
  simp only at f1 f5 f10 f11 f12 kx hc3 ih
  have hw3 := kx.wf hw2
  have hS3 := sub_kxo hS2 st.wf hso kx hN2
  have hle := kx.le
  have keepn : ∀ z, z < n → H3 z = H z := fun z hz => (kx.keep z (by have := k2.le; omega) (by omega)).trans (k2.keep z hz)
  by_cases hlt : j < w.length
  · have ha3 : RA (Value.int .i64) H3 a w := fun hne => by
      obtain ⟨q, k, cs, ty, own, c1, c2, c3⟩ := ha hne
      exact ⟨q, k, cs, ty, own, c1, (keepn q (Classical.byContradiction fun hc => by rw [hw q (by omega)] at c2; cases c2)).trans c2, c3⟩
    obtain ⟨zp, kp, dsp, tp, op, rfl, hzp, e3⟩ := ha3.at hlt
    have hwj : IntKind.wrap .i64 ((j : Int) + 1) = ((j + 1 : Nat) : Int) := by rw [wrap_in (by omega) (by omega)]; rfl
    repeat (first | apply qqa | apply qqb | apply qqc | apply qqd | apply qqe | apply qqf | apply qqg | apply qqh | refine qqi rfl ?_ | ((first | (refine WK.rgn ?_ ?_; kernel_rfl) | refine AtCall.now ?_); simp (config := { maxSteps := 1000000 }) only [SS, qg0, qgb, qgl, qgi, forall_const, tor, vun, tlen2, tbox, one, Int.reduceEq, Int.reduceNeg, Nat.reduceGT, Nat.reduceLT, Nat.reduceLeDiff, Nat.reduceEqDiff, ↓reduceIte, reduceCtorEq, Int.reduceToNat, Int.reduceLE, Int.reduceLT, Nat.reduceAdd, Nat.reduceMul, f1, f5, f10, f11, f12, hlt, hzp, e3, ff_16]) | refine qqj rfl ?_ | refine qqk rfl ?_)
    refine AtCall.byX (push_gives (t := w[j]) st hso hw3 hS3 (by omega) hoN hc3 hk3 (by omega) (by rw [List.length_take]; omega) (hi _ (List.getElem_mem hlt))) ?_
    rintro v n4 H4 kx4 ⟨rfl, rc4, y4, x4, hc4, _, _⟩
    have hdr : w.drop j = w[j] :: w.drop (j + 1) := List.drop_eq_getElem_cons hlt
    have htj : w.take (j + 1) = w.take j ++ [w[j]] := List.take_succ_eq_append_getElem hlt
    rw [hdr, prefS_cons] at hpr
    cases hpu : pushS g (gdG g) (emG g) sets w[j] with
    | none =>
      rw [hpu] at hpr
      simp (config := { maxSteps := 1000000 }) only [SS, qg0, qgb, qgl, qgi, forall_const, tor, vun, tlen2, tbox, one, Int.reduceEq, Int.reduceNeg, Nat.reduceGT, Nat.reduceLT, Nat.reduceLeDiff, Nat.reduceEqDiff, ↓reduceIte, reduceCtorEq, Int.reduceToNat, Int.reduceLE, Int.reduceLT, Nat.reduceAdd, Nat.reduceMul, Option.isSome_none, ff_16]
      repeat (first | apply qqa | apply qqb | apply qqc | apply qqd | apply qqe | apply qqf | apply qqg | apply qqh | refine qqi rfl ?_ | ((first | (refine WK.rgn ?_ ?_; kernel_rfl) | refine AtCall.now ?_); simp (config := { maxSteps := 1000000 }) only [SS, qg0, qgb, qgl, qgi, forall_const, tor, vun, tlen2, tbox, one, Int.reduceEq, Int.reduceNeg, Nat.reduceGT, Nat.reduceLT, Nat.reduceLeDiff, Nat.reduceEqDiff, ↓reduceIte, reduceCtorEq, Int.reduceToNat, Int.reduceLE, Int.reduceLT, Nat.reduceAdd, Nat.reduceMul, f12, ff_16]) | refine qqj rfl ?_ | refine qqk rfl ?_)
      (first | refine WK.retNil ⟨Or.inr rfl, _, rfl, ?_, ?_⟩ | refine WK.skipNil ⟨Or.inl rfl, _, rfl, ?_, ?_⟩)
      · exact fun z hz => ((kx.trans kx4).keep z (by have := k2.le; omega) (by omega)).trans (k2.keep z hz)
      · simp only [packed, fset_apply, Nat.reduceEqDiff, ↓reduceIte, List.getD_cons_zero, List.getD_cons_succ, f12, ff_16]
        rw [hpr]
        rfl
    | some s' =>
      rw [hpu] at hpr hc4
      simp only [Option.getD_some, Option.isSome_some, if_true] at hc4
      rw [← htj] at hc4
      simp (config := { maxSteps := 1000000 }) only [SS, qg0, qgb, qgl, qgi, forall_const, tor, vun, tlen2, tbox, one, Int.reduceEq, Int.reduceNeg, Nat.reduceGT, Nat.reduceLT, Nat.reduceLeDiff, Nat.reduceEqDiff, ↓reduceIte, reduceCtorEq, Int.reduceToNat, Int.reduceLE, Int.reduceLT, Nat.reduceAdd, Nat.reduceMul, Option.isSome_some, ff_16]
      repeat (first | apply qqa | apply qqb | apply qqc | apply qqd | apply qqe | apply qqf | apply qqg | apply qqh | refine qqi rfl ?_ | ((first | (refine WK.rgn ?_ ?_; kernel_rfl) | refine AtCall.now ?_); simp (config := { maxSteps := 1000000 }) only [SS, qg0, qgb, qgl, qgi, forall_const, tor, vun, tlen2, tbox, one, Int.reduceEq, Int.reduceNeg, Nat.reduceGT, Nat.reduceLT, Nat.reduceLeDiff, Nat.reduceEqDiff, ↓reduceIte, reduceCtorEq, Int.reduceToNat, Int.reduceLE, Int.reduceLT, Nat.reduceAdd, Nat.reduceMul, f12, hwj, ff_16]) | refine qqj rfl ?_ | refine qqk rfl ?_)
      refine ih (w.length - (j + 1)) (by omega) _ ⟨j + 1, y4, x4, s', kx.trans kx4, f1, f5, f10, f11, ?_, hlt, hc4, hk3.push hpu, by rw [pushS_len hpu]; omega, by rw [hpr]; simp only []; omega, rfl⟩
      simp only [packed, fset_apply, Nat.reduceEqDiff, ↓reduceIte, List.getD_cons_zero, List.getD_cons_succ, f12, hwj, ff_16]
  · have hje : j = w.length := by omega
    repeat (first | apply qqa | apply qqb | apply qqc | apply qqd | apply qqe | apply qqf | apply qqg | apply qqh | refine qqi rfl ?_ | ((first | (refine WK.rgn ?_ ?_; kernel_rfl) | refine AtCall.now ?_); simp (config := { maxSteps := 1000000 }) only [SS, qg0, qgb, qgl, qgi, forall_const, tor, vun, tlen2, tbox, one, Int.reduceEq, Int.reduceNeg, Nat.reduceGT, Nat.reduceLT, Nat.reduceLeDiff, Nat.reduceEqDiff, ↓reduceIte, reduceCtorEq, Int.reduceToNat, Int.reduceLE, Int.reduceLT, Nat.reduceAdd, Nat.reduceMul, f1, f5, f10, f11, f12, hlt, ff_16]) | refine qqj rfl ?_ | refine qqk rfl ?_)
    (first | refine WK.retNil ⟨Or.inr rfl, _, rfl, ?_, ?_⟩ | refine WK.skipNil ⟨Or.inl rfl, _, rfl, ?_, ?_⟩)
    · exact fun z hz => (kx.keep z (by have := k2.le; omega) (by omega)).trans (k2.keep z hz)
    · simp only [packed, fset_apply, Nat.reduceEqDiff, ↓reduceIte, List.getD_cons_zero, List.getD_cons_succ, ff_16]
      rw [hpr, hje, List.drop_length]
      rfl
set_option maxHeartbeats 8000000 in
theorem accepts_gives {g : Gram} {n : Nat} {H : Heap} {v : Value} {w : List Int} {a : Option Addr} (hw : WF n H) (hg : RG H v g) (wg : WG g) (ok : RightOK g) (hf : few g = true) (ha : RA (Value.int .i64) H a w) (hwl : w.length ≤ 3900) (hi : ∀ t ∈ w, inI t) :
    Gives Try.prog 17 [v, .slice a w.length w.length] n H fun r _ _ => r = .bool (accW g (gdG g) (emG g) (newS g (gdG g) (emG g)) w) := by
  have hg0 := hg
  obtain ⟨pt0, pv0, pr0, rfl, ht, hv, hr⟩ := hg
  refine Gives.of orders ok17 (Nat.le_of_ble_eq_true rfl) ?_
  have hk := Kp.new n H (.cells (gcells pt0 pv0 pr0 g) 25 true)
  have hb := hset_at H n (.cells (gcells pt0 pv0 pr0 g) 25 true)
  have hw1 := hk.wf hw
  have hg1 := hg0.mono hw hk
  repeat (first | apply qqa | apply qqb | apply qqc | apply qqd | apply qqe | apply qqf | apply qqg | apply qqh | refine qqi rfl ?_)
  (refine WK.rgn ?_ ?_; kernel_rfl; simp (config := { maxSteps := 1000000 }) only [SS, qg0, qgb, qgl, qgi, forall_const, tor, vun, tlen2, tbox, one, Int.reduceEq, Int.reduceNeg, Nat.reduceGT, Nat.reduceLT, Nat.reduceLeDiff, Nat.reduceEqDiff, ↓reduceIte, reduceCtorEq, Int.reduceToNat, Int.reduceLE, Int.reduceLT, Nat.reduceAdd, Nat.reduceMul, box_cells, box_one, ff_17])
  generalize hset H n (.cells (gcells pt0 pv0 pr0 g) 25 true) = H1 at *
  repeat (first | apply qqa | apply qqb | apply qqc | apply qqd | apply qqe | apply qqf | apply qqg | apply qqh | refine qqi rfl ?_ | ((first | (refine WK.rgn ?_ ?_; kernel_rfl) | refine AtCall.now ?_); simp (config := { maxSteps := 1000000 }) only [SS, qg0, qgb, qgl, qgi, forall_const, tor, vun, tlen2, tbox, one, Int.reduceEq, Int.reduceNeg, Nat.reduceGT, Nat.reduceLT, Nat.reduceLeDiff, Nat.reduceEqDiff, ↓reduceIte, reduceCtorEq, Int.reduceToNat, Int.reduceLE, Int.reduceLT, Nat.reduceAdd, Nat.reduceMul, hb, gc_len, gc_all, ff_17]) | refine qqj rfl ?_ | refine qqk rfl ?_)
  refine AtCall.by (new_gives hw1 hg1 wg ok hf) ?_
  rintro v n2 H2 hk2 ⟨S, N, o, y, x, pt, pv, pr, pg, pe, pc, co, rfl, st, hso, hS2, hN2, hoN, hno, hny, hnx, hc2, _⟩
  have hw2 := hk2.wf hw1
  have k2 := hk.trans hk2
  simp (config := { maxSteps := 1000000 }) only [SS, qg0, qgb, qgl, qgi, forall_const, tor, vun, tlen2, tbox, one, Int.reduceEq, Int.reduceNeg, Nat.reduceGT, Nat.reduceLT, Nat.reduceLeDiff, Nat.reduceEqDiff, ↓reduceIte, reduceCtorEq, Int.reduceToNat, Int.reduceLE, Int.reduceLT, Nat.reduceAdd, Nat.reduceMul, ff_17]
  repeat (first | apply qqa | apply qqb | apply qqc | apply qqd | apply qqe | apply qqf | apply qqg | apply qqh | refine qqi rfl ?_ | ((first | (refine WK.rgn ?_ ?_; kernel_rfl) | refine AtCall.now ?_); simp (config := { maxSteps := 1000000 }) only [SS, qg0, qgb, qgl, qgi, forall_const, tor, vun, tlen2, tbox, one, Int.reduceEq, Int.reduceNeg, Nat.reduceGT, Nat.reduceLT, Nat.reduceLeDiff, Nat.reduceEqDiff, ↓reduceIte, reduceCtorEq, Int.reduceToNat, Int.reduceLE, Int.reduceLT, Nat.reduceAdd, Nat.reduceMul, ff_17]) | refine qqj rfl ?_ | refine qqk rfl ?_)
  refine WK.loop (fun k2 s => ∃ (j y x : Nat) (sets : List (List It)), Kx (fun z => z = o ∨ N ≤ z) n2 H2 s.n s.H ∧ s.f 5 = .pointer (some ⟨o, 0, none⟩) ∧ s.f 10 = .slice a w.length w.length ∧ s.f 11 = .int .i64 (w.length : Nat) ∧ s.f 12 = .int .i64 (j : Nat) ∧ j ≤ w.length ∧
    CHR s.H N o y x pt pv pr pg pe pc g (gdG g) (emG g) co sets (w.take j) ∧ okS g sets ∧ sets.length = j + 1 ∧ accW g (gdG g) (emG g) (newS g (gdG g) (emG g)) w = accW g (gdG g) (emG g) sets (w.drop j) ∧ k2 = w.length - j) w.length ?_ ?_
  · exact ⟨0, y, x, newS g (gdG g) (emG g), .refl _ _ _, rfl, rfl, rfl, rfl, Nat.zero_le _, hc2, okS.new, rfl, by simp, rfl⟩
  rintro kk ⟨f, n3, H3⟩ ⟨j, y3, x3, sets, kx, f5, f10, f11, f12, hj, hc3, hk3, hsl, hpr, rfl⟩ ih
  simp only at f5 f10 f11 f12 kx hc3 ih
  have hw3 := kx.wf hw2
  have hS3 := sub_kxo hS2 st.wf hso kx hN2
  have hle := kx.le
  have keepn : ∀ z, z < n → H3 z = H z := fun z hz => (kx.keep z (by have := k2.le; omega) (by omega)).trans (k2.keep z hz)
  by_cases hlt : j < w.length
  · have ha3 : RA (Value.int .i64) H3 a w := fun hne => by
      obtain ⟨q, k, cs, ty, own, c1, c2, c3⟩ := ha hne
      exact ⟨q, k, cs, ty, own, c1, (keepn q (Classical.byContradiction fun hc => by rw [hw q (by omega)] at c2; cases c2)).trans c2, c3⟩
    obtain ⟨zp, kp, dsp, tp, op, rfl, hzp, e3⟩ := ha3.at hlt
    have hwj : IntKind.wrap .i64 ((j : Int) + 1) = ((j + 1 : Nat) : Int) := by rw [wrap_in (by omega) (by omega)]; rfl
    repeat (first | apply qqa | apply qqb | apply qqc | apply qqd | apply qqe | apply qqf | apply qqg | apply qqh | refine qqi rfl ?_ | ((first | (refine WK.rgn ?_ ?_; kernel_rfl) | refine AtCall.now ?_); simp (config := { maxSteps := 1000000 }) only [SS, qg0, qgb, qgl, qgi, forall_const, tor, vun, tlen2, tbox, one, Int.reduceEq, Int.reduceNeg, Nat.reduceGT, Nat.reduceLT, Nat.reduceLeDiff, Nat.reduceEqDiff, ↓reduceIte, reduceCtorEq, Int.reduceToNat, Int.reduceLE, Int.reduceLT, Nat.reduceAdd, Nat.reduceMul, f5, f10, f11, f12, hlt, hzp, e3, ff_17]) | refine qqj rfl ?_ | refine qqk rfl ?_)
    refine AtCall.byX (push_gives (t := w[j]) st hso hw3 hS3 (by omega) hoN hc3 hk3 (by omega) (by rw [List.length_take]; omega) (hi _ (List.getElem_mem hlt))) ?_
    rintro v n4 H4 kx4 ⟨rfl, rc4, y4, x4, hc4, _, _⟩
    have hdr : w.drop j = w[j] :: w.drop (j + 1) := List.drop_eq_getElem_cons hlt
    have htj : w.take (j + 1) = w.take j ++ [w[j]] := List.take_succ_eq_append_getElem hlt
    rw [hdr, accW_cons] at hpr
    cases hpu : pushS g (gdG g) (emG g) sets w[j] with
    | none =>
      rw [hpu] at hpr
      simp (config := { maxSteps := 1000000 }) only [SS, qg0, qgb, qgl, qgi, forall_const, tor, vun, tlen2, tbox, one, Int.reduceEq, Int.reduceNeg, Nat.reduceGT, Nat.reduceLT, Nat.reduceLeDiff, Nat.reduceEqDiff, ↓reduceIte, reduceCtorEq, Int.reduceToNat, Int.reduceLE, Int.reduceLT, Nat.reduceAdd, Nat.reduceMul, Option.isSome_none, ff_17]
      repeat (first | apply qqa | apply qqb | apply qqc | apply qqd | apply qqe | apply qqf | apply qqg | apply qqh | refine qqi rfl ?_ | ((first | (refine WK.rgn ?_ ?_; kernel_rfl) | refine AtCall.now ?_); simp (config := { maxSteps := 1000000 }) only [SS, qg0, qgb, qgl, qgi, forall_const, tor, vun, tlen2, tbox, one, Int.reduceEq, Int.reduceNeg, Nat.reduceGT, Nat.reduceLT, Nat.reduceLeDiff, Nat.reduceEqDiff, ↓reduceIte, reduceCtorEq, Int.reduceToNat, Int.reduceLE, Int.reduceLT, Nat.reduceAdd, Nat.reduceMul, ff_17]) | refine qqj rfl ?_ | refine qqk rfl ?_)
      (first | refine WK.retNil ⟨Or.inr rfl, _, rfl, ?_, ?_⟩ | refine WK.skipNil ⟨Or.inl rfl, _, rfl, ?_, ?_⟩)
      · exact fun z hz => ((kx.trans kx4).keep z (by have := k2.le; omega) (by omega)).trans (k2.keep z hz)
      · simp only [packed, fset_apply, Nat.reduceEqDiff, ↓reduceIte, List.getD_cons_zero, List.getD_cons_succ, ff_17]
        rw [hpr]
    | some s' =>
      rw [hpu] at hpr hc4
      simp only [Option.getD_some, Option.isSome_some, if_true] at hc4
      rw [← htj] at hc4
      simp (config := { maxSteps := 1000000 }) only [SS, qg0, qgb, qgl, qgi, forall_const, tor, vun, tlen2, tbox, one, Int.reduceEq, Int.reduceNeg, Nat.reduceGT, Nat.reduceLT, Nat.reduceLeDiff, Nat.reduceEqDiff, ↓reduceIte, reduceCtorEq, Int.reduceToNat, Int.reduceLE, Int.reduceLT, Nat.reduceAdd, Nat.reduceMul, Option.isSome_some, ff_17]
      repeat (first | apply qqa | apply qqb | apply qqc | apply qqd | apply qqe | apply qqf | apply qqg | apply qqh | refine qqi rfl ?_ | ((first | (refine WK.rgn ?_ ?_; kernel_rfl) | refine AtCall.now ?_); simp (config := { maxSteps := 1000000 }) only [SS, qg0, qgb, qgl, qgi, forall_const, tor, vun, tlen2, tbox, one, Int.reduceEq, Int.reduceNeg, Nat.reduceGT, Nat.reduceLT, Nat.reduceLeDiff, Nat.reduceEqDiff, ↓reduceIte, reduceCtorEq, Int.reduceToNat, Int.reduceLE, Int.reduceLT, Nat.reduceAdd, Nat.reduceMul, f12, hwj, ff_17]) | refine qqj rfl ?_ | refine qqk rfl ?_)
      refine ih (w.length - (j + 1)) (by omega) _ ⟨j + 1, y4, x4, s', kx.trans kx4, f5, f10, f11, ?_, hlt, hc4, hk3.push hpu, by rw [pushS_len hpu]; omega, hpr, rfl⟩
      simp only [packed, fset_apply, Nat.reduceEqDiff, ↓reduceIte, List.getD_cons_zero, List.getD_cons_succ, f12, hwj, ff_17]
  · have hje : j = w.length := by omega
    repeat (first | apply qqa | apply qqb | apply qqc | apply qqd | apply qqe | apply qqf | apply qqg | apply qqh | refine qqi rfl ?_ | ((first | (refine WK.rgn ?_ ?_; kernel_rfl) | refine AtCall.now ?_); simp (config := { maxSteps := 1000000 }) only [SS, qg0, qgb, qgl, qgi, forall_const, tor, vun, tlen2, tbox, one, Int.reduceEq, Int.reduceNeg, Nat.reduceGT, Nat.reduceLT, Nat.reduceLeDiff, Nat.reduceEqDiff, ↓reduceIte, reduceCtorEq, Int.reduceToNat, Int.reduceLE, Int.reduceLT, Nat.reduceAdd, Nat.reduceMul, f5, f10, f11, f12, hlt, ff_17]) | refine qqj rfl ?_ | refine qqk rfl ?_)
    refine AtCall.by (accm_gives st hw3 hS3 hc3 hk3 (by omega)) ?_
    rintro v n4 H4 hk4 rfl
    simp (config := { maxSteps := 1000000 }) only [SS, qg0, qgb, qgl, qgi, forall_const, tor, vun, tlen2, tbox, one, Int.reduceEq, Int.reduceNeg, Nat.reduceGT, Nat.reduceLT, Nat.reduceLeDiff, Nat.reduceEqDiff, ↓reduceIte, reduceCtorEq, Int.reduceToNat, Int.reduceLE, Int.reduceLT, Nat.reduceAdd, Nat.reduceMul, ff_17]
    repeat (first | apply qqa | apply qqb | apply qqc | apply qqd | apply qqe | apply qqf | apply qqg | apply qqh | refine qqi rfl ?_ | ((first | (refine WK.rgn ?_ ?_; kernel_rfl) | refine AtCall.now ?_); simp (config := { maxSteps := 1000000 }) only [SS, qg0, qgb, qgl, qgi, forall_const, tor, vun, tlen2, tbox, one, Int.reduceEq, Int.reduceNeg, Nat.reduceGT, Nat.reduceLT, Nat.reduceLeDiff, Nat.reduceEqDiff, ↓reduceIte, reduceCtorEq, Int.reduceToNat, Int.reduceLE, Int.reduceLT, Nat.reduceAdd, Nat.reduceMul, ff_17]) | refine qqj rfl ?_ | refine qqk rfl ?_)
    (first | refine WK.retNil ⟨Or.inr rfl, _, rfl, ?_, ?_⟩ | refine WK.skipNil ⟨Or.inl rfl, _, rfl, ?_, ?_⟩)
    · exact fun z hz => (hk4.keep z (by have := k2.le; omega)).trans ((kx.keep z (by have := k2.le; omega) (by omega)).trans (k2.keep z hz))
    · simp only [packed, fset_apply, Nat.reduceEqDiff, ↓reduceIte, List.getD_cons_zero, List.getD_cons_succ, ff_17]
      rw [hpr, hje, List.drop_length]
      rfl
end Go.Proofs.Ytpdlmpbhohinpaa
