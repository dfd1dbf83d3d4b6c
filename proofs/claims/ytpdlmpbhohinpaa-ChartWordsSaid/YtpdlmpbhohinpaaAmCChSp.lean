/- A part of a proof. Its conditions: none. -/
import Derived.Test.YtpdlmpbhohinpaaAmCChAcc
import Derived.Test.YtpdlmpbhohinpaaAmCLfFix
import Derived.Test.YtpdlmpbhohinpaaAmCFacts
import Derived.Test.YtpdlmpbhohinpaaAmC
import Derived.Test.YtpdlmpbhohinpaaAmD
set_option linter.all false
namespace Go.Proofs.Ytpdlmpbhohinpaa
open Go.AM Go.RowKit
set_option maxRecDepth 100000
theorem prefS_cons {g : Gram} {gd em : List Bool} (s : List (List It)) (t : Int) (w : List Int) : prefS g gd em s (t :: w) = match pushS g gd em s t with | none => 0 | some s' => prefS g gd em s' w + 1 := rfl
theorem accW_cons {g : Gram} {gd em : List Bool} (s : List (List It)) (t : Int) (w : List Int) : accW g gd em s (t :: w) = match pushS g gd em s t with | none => false | some s' => accW g gd em s' w := rfl
set_option maxHeartbeats 8000000 in
theorem prefix_gives {g : Gram} {n : Nat} {H : Heap} {v : Value} {w : List Int} {a : Option Addr} (hw : WF n H) (hg : RG H v g) (wg : WG g) (ok : RightOK g) (hf : few g = true) (ha : RA (Value.int .i64) H a w) (hwl : w.length ≤ 3900) (hi : ∀ t ∈ w, inI t) :
    Gives Try.prog 16 [v, .slice a w.length w.length] n H fun r _ _ => r = .int .i64 (prefS g (gdG g) (emG g) (newS g (gdG g) (emG g)) w : Nat) := by
  have hg0 := hg
  obtain ⟨pt0, pv0, pr0, rfl, ht, hv, hr⟩ := hg
  refine Gives.of orders ok16 (Nat.le_of_ble_eq_true rfl) ?_
  have hk := Kp.new n H (.cells (gcells pt0 pv0 pr0 g) 25 true)
  have hb := hset_at H n (.cells (gcells pt0 pv0 pr0 g) 25 true)
  have hw1 := hk.wf hw
  have hg1 := hg0.mono hw hk
  repeat (first | refine qqn rfl ?_)
  (refine WK.rgn ?_ ?_; kernel_rfl; simp (config := {maxSteps:=999999}) only [SS, qx4, forall_const, vun, simprocAttr, box_cells, box_one, ff_16])
  generalize hset H n (.cells (gcells pt0 pv0 pr0 g) 25 true) = H1 at *
  repeat (first | refine qqn rfl ?_ | ((first | (refine WK.rgn ?_ ?_; kernel_rfl) | refine AtCall.now ?_); simp (config := {maxSteps:=999999}) only [SS, qx4, forall_const, vun, simprocAttr, hb, gc_len, gc_all, ff_16]) | refine qqj rfl ?_ | refine qqk rfl ?_)
  refine AtCall.by (new_gives hw1 hg1 wg ok hf) ?_
  rintro v n2 H2 hk2 ⟨S, N, o, y, x, pt, pv, pr, pg, pe, pc, co, rfl, st, hso, hS2, hN2, hoN, hno, hny, hnx, hc2, _⟩
  have hw2 := hk2.wf hw1
  have k2 := hk.trans hk2
  simp (config := {maxSteps:=999999}) only [SS, qx4, forall_const, vun, simprocAttr, ff_16]
  repeat (first | refine qqn rfl ?_ | ((first | (refine WK.rgn ?_ ?_; kernel_rfl) | refine AtCall.now ?_); simp (config := {maxSteps:=999999}) only [SS, qx4, forall_const, vun, simprocAttr, ff_16]) | refine qqj rfl ?_ | refine qqk rfl ?_)
  refine WK.loop (fun k2 s => ∃ (j y x : Nat) (sets : List (List It)), Kx (fun z => z = o ∨ N ≤ z) n2 H2 s.n s.H ∧ s.f 1 = .slice a w.length w.length ∧ s.f 5 = .pointer (some ⟨o, 0, none⟩) ∧ s.f 10 = .slice a w.length w.length ∧ s.f 11 = .int .i64 (w.length : Nat) ∧ s.f 12 = .int .i64 (j : Nat) ∧ j ≤ w.length ∧
    CHR s.H N o y x pt pv pr pg pe pc g (gdG g) (emG g) co sets (w.take j) ∧ okS g sets ∧ sets.length = j + 1 ∧ prefS g (gdG g) (emG g) (newS g (gdG g) (emG g)) w = j + prefS g (gdG g) (emG g) sets (w.drop j) ∧ k2 = w.length - j) w.length ?_ ?_
  · exact ⟨0, y, x, newS g (gdG g) (emG g), .refl _ _ _, rfl, rfl, rfl, rfl, rfl, Nat.zero_le _, hc2, okS.new, rfl, by simp, rfl⟩
  rintro kk ⟨f, n3, H3⟩ ⟨j, y3, x3, sets, kx, f1, f5, f10, f11, f12, hj, hc3, hk3, hsl, hpr, rfl⟩ ih
  simp only at f1 f5 f10 f11 f12 kx hc3 ih
  have hw3 := kx.wf hw2
  have hS3 := sub_kxo hS2 st.wf hso kx hN2
  have hle := kx.le
  have keepn : ∀ z, z < n → H3 z = H z := fun z hz => (kx.keep z (by have := k2.le; omega) (by omega)).trans (k2.keep z hz)
  by_cases hlt : j < w.length
  · have ha3 : RA (Value.int .i64) H3 a w := fun hne => by
      obtain ⟨q, k, cs, ty, own, c1, c2, c3⟩ := ha hne
      exact ⟨q, k, cs, ty, own, c1, (keepn q (Classical.byContradiction fun hc => by rw [hw q (by omega)] at c2; cases c2)).trans c2, c3⟩
    obtain ⟨zp, kp, dsp, tp, op, rfl, hzp, e3⟩ := ha3.at hlt
    have hwj : IntKind.wrap .i64 ((j : Int) + 1) = ((j + 1 : Nat) : Int) := by rw [wrap_in (by omega) (by omega)]; rfl
    repeat (first | refine qqn rfl ?_ | ((first | (refine WK.rgn ?_ ?_; kernel_rfl) | refine AtCall.now ?_); simp (config := {maxSteps:=999999}) only [SS, qx4, forall_const, vun, simprocAttr, f1, f5, f10, f11, f12, hlt, hzp, e3, ff_16]) | refine qqj rfl ?_ | refine qqk rfl ?_)
    refine AtCall.byX (push_gives (t := w[j]) st hso hw3 hS3 (by omega) hoN hc3 hk3 (by omega) (by rw [List.length_take]; omega) (hi _ (List.getElem_mem hlt))) ?_
    rintro v n4 H4 kx4 ⟨rfl, rc4, y4, x4, hc4, _, _⟩
    have hdr : w.drop j = w[j] :: w.drop (j + 1) := List.drop_eq_getElem_cons hlt
    have htj : w.take (j + 1) = w.take j ++ [w[j]] := List.take_succ_eq_append_getElem hlt
    rw [hdr, prefS_cons] at hpr
    cases hpu : pushS g (gdG g) (emG g) sets w[j] with
    | none =>
      rw [hpu] at hpr
      simp (config := {maxSteps:=999999}) only [SS, qx4, forall_const, vun, simprocAttr, Option.isSome_none, ff_16]
      repeat (first | refine qqn rfl ?_ | ((first | (refine WK.rgn ?_ ?_; kernel_rfl) | refine AtCall.now ?_); simp (config := {maxSteps:=999999}) only [SS, qx4, forall_const, vun, simprocAttr, f12, ff_16]) | refine qqj rfl ?_ | refine qqk rfl ?_)
      (first | refine WK.retNil ⟨Or.inr rfl, _, rfl, ?_, ?_⟩ | refine WK.skipNil ⟨Or.inl rfl, _, rfl, ?_, ?_⟩)
      · exact fun z hz => ((kx.trans kx4).keep z (by have := k2.le; omega) (by omega)).trans (k2.keep z hz)
      · simp only [packed, fset_apply, Nat.reduceEqDiff, ↓reduceIte, List.getD_cons_zero, List.getD_cons_succ, f12, ff_16]
        rw [hpr]
        rfl
    | some s' =>
      rw [hpu] at hpr hc4
      simp only [Option.getD_some, Option.isSome_some, if_true] at hc4
      rw [← htj] at hc4
      simp (config := {maxSteps:=999999}) only [SS, qx4, forall_const, vun, simprocAttr, Option.isSome_some, ff_16]
      repeat (first | refine qqn rfl ?_ | ((first | (refine WK.rgn ?_ ?_; kernel_rfl) | refine AtCall.now ?_); simp (config := {maxSteps:=999999}) only [SS, qx4, forall_const, vun, simprocAttr, f12, hwj, ff_16]) | refine qqj rfl ?_ | refine qqk rfl ?_)
      refine ih (w.length - (j + 1)) (by omega) _ ⟨j + 1, y4, x4, s', kx.trans kx4, f1, f5, f10, f11, ?_, hlt, hc4, hk3.push hpu, by rw [pushS_len hpu]; omega, by rw [hpr]; simp only []; omega, rfl⟩
      simp only [packed, fset_apply, Nat.reduceEqDiff, ↓reduceIte, List.getD_cons_zero, List.getD_cons_succ, f12, hwj, ff_16]
  · have hje : j = w.length := by omega
    repeat (first | refine qqn rfl ?_ | ((first | (refine WK.rgn ?_ ?_; kernel_rfl) | refine AtCall.now ?_); simp (config := {maxSteps:=999999}) only [SS, qx4, forall_const, vun, simprocAttr, f1, f5, f10, f11, f12, hlt, ff_16]) | refine qqj rfl ?_ | refine qqk rfl ?_)
    (first | refine WK.retNil ⟨Or.inr rfl, _, rfl, ?_, ?_⟩ | refine WK.skipNil ⟨Or.inl rfl, _, rfl, ?_, ?_⟩)
    · exact fun z hz => (kx.keep z (by have := k2.le; omega) (by omega)).trans (k2.keep z hz)
    · simp only [packed, fset_apply, Nat.reduceEqDiff, ↓reduceIte, List.getD_cons_zero, List.getD_cons_succ, ff_16]
      rw [hpr, hje, List.drop_length]
      rfl
set_option maxHeartbeats 8000000 in
theorem accepts_gives {g : Gram} {n : Nat} {H : Heap} {v : Value} {w : List Int} {a : Option Addr} (hw : WF n H) (hg : RG H v g) (wg : WG g) (ok : RightOK g) (hf : few g = true) (ha : RA (Value.int .i64) H a w) (hwl : w.length ≤ 3900) (hi : ∀ t ∈ w, inI t) :
    Gives Try.prog 17 [v, .slice a w.length w.length] n H fun r _ _ => r = .bool (accW g (gdG g) (emG g) (newS g (gdG g) (emG g)) w) := by
  have hg0 := hg
  obtain ⟨pt0, pv0, pr0, rfl, ht, hv, hr⟩ := hg
  refine Gives.of orders ok17 (Nat.le_of_ble_eq_true rfl) ?_
  have hk := Kp.new n H (.cells (gcells pt0 pv0 pr0 g) 25 true)
  have hb := hset_at H n (.cells (gcells pt0 pv0 pr0 g) 25 true)
  have hw1 := hk.wf hw
  have hg1 := hg0.mono hw hk
  repeat (first | refine qqn rfl ?_)
  (refine WK.rgn ?_ ?_; kernel_rfl; simp (config := {maxSteps:=999999}) only [SS, qx4, forall_const, vun, simprocAttr, box_cells, box_one, ff_17])
  generalize hset H n (.cells (gcells pt0 pv0 pr0 g) 25 true) = H1 at *
  repeat (first | refine qqn rfl ?_ | ((first | (refine WK.rgn ?_ ?_; kernel_rfl) | refine AtCall.now ?_); simp (config := {maxSteps:=999999}) only [SS, qx4, forall_const, vun, simprocAttr, hb, gc_len, gc_all, ff_17]) | refine qqj rfl ?_ | refine qqk rfl ?_)
  refine AtCall.by (new_gives hw1 hg1 wg ok hf) ?_
  rintro v n2 H2 hk2 ⟨S, N, o, y, x, pt, pv, pr, pg, pe, pc, co, rfl, st, hso, hS2, hN2, hoN, hno, hny, hnx, hc2, _⟩
  have hw2 := hk2.wf hw1
  have k2 := hk.trans hk2
  simp (config := {maxSteps:=999999}) only [SS, qx4, forall_const, vun, simprocAttr, ff_17]
  repeat (first | refine qqn rfl ?_ | ((first | (refine WK.rgn ?_ ?_; kernel_rfl) | refine AtCall.now ?_); simp (config := {maxSteps:=999999}) only [SS, qx4, forall_const, vun, simprocAttr, ff_17]) | refine qqj rfl ?_ | refine qqk rfl ?_)
  refine WK.loop (fun k2 s => ∃ (j y x : Nat) (sets : List (List It)), Kx (fun z => z = o ∨ N ≤ z) n2 H2 s.n s.H ∧ s.f 5 = .pointer (some ⟨o, 0, none⟩) ∧ s.f 10 = .slice a w.length w.length ∧ s.f 11 = .int .i64 (w.length : Nat) ∧ s.f 12 = .int .i64 (j : Nat) ∧ j ≤ w.length ∧
    CHR s.H N o y x pt pv pr pg pe pc g (gdG g) (emG g) co sets (w.take j) ∧ okS g sets ∧ sets.length = j + 1 ∧ accW g (gdG g) (emG g) (newS g (gdG g) (emG g)) w = accW g (gdG g) (emG g) sets (w.drop j) ∧ k2 = w.length - j) w.length ?_ ?_
  · exact ⟨0, y, x, newS g (gdG g) (emG g), .refl _ _ _, rfl, rfl, rfl, rfl, Nat.zero_le _, hc2, okS.new, rfl, by simp, rfl⟩
  rintro kk ⟨f, n3, H3⟩ ⟨j, y3, x3, sets, kx, f5, f10, f11, f12, hj, hc3, hk3, hsl, hpr, rfl⟩ ih
  simp only at f5 f10 f11 f12 kx hc3 ih
  have hw3 := kx.wf hw2
  have hS3 := sub_kxo hS2 st.wf hso kx hN2
  have hle := kx.le
  have keepn : ∀ z, z < n → H3 z = H z := fun z hz => (kx.keep z (by have := k2.le; omega) (by omega)).trans (k2.keep z hz)
  by_cases hlt : j < w.length
  · have ha3 : RA (Value.int .i64) H3 a w := fun hne => by
      obtain ⟨q, k, cs, ty, own, c1, c2, c3⟩ := ha hne
      exact ⟨q, k, cs, ty, own, c1, (keepn q (Classical.byContradiction fun hc => by rw [hw q (by omega)] at c2; cases c2)).trans c2, c3⟩
    obtain ⟨zp, kp, dsp, tp, op, rfl, hzp, e3⟩ := ha3.at hlt
    have hwj : IntKind.wrap .i64 ((j : Int) + 1) = ((j + 1 : Nat) : Int) := by rw [wrap_in (by omega) (by omega)]; rfl
    repeat (first | refine qqn rfl ?_ | ((first | (refine WK.rgn ?_ ?_; kernel_rfl) | refine AtCall.now ?_); simp (config := {maxSteps:=999999}) only [SS, qx4, forall_const, vun, simprocAttr, f5, f10, f11, f12, hlt, hzp, e3, ff_17]) | refine qqj rfl ?_ | refine qqk rfl ?_)
    refine AtCall.byX (push_gives (t := w[j]) st hso hw3 hS3 (by omega) hoN hc3 hk3 (by omega) (by rw [List.length_take]; omega) (hi _ (List.getElem_mem hlt))) ?_
    rintro v n4 H4 kx4 ⟨rfl, rc4, y4, x4, hc4, _, _⟩
    have hdr : w.drop j = w[j] :: w.drop (j + 1) := List.drop_eq_getElem_cons hlt
    have htj : w.take (j + 1) = w.take j ++ [w[j]] := List.take_succ_eq_append_getElem hlt
    rw [hdr, accW_cons] at hpr
    cases hpu : pushS g (gdG g) (emG g) sets w[j] with
    | none =>
      rw [hpu] at hpr
      simp (config := {maxSteps:=999999}) only [SS, qx4, forall_const, vun, simprocAttr, Option.isSome_none, ff_17]
      repeat (first | refine qqn rfl ?_ | ((first | (refine WK.rgn ?_ ?_; kernel_rfl) | refine AtCall.now ?_); simp (config := {maxSteps:=999999}) only [SS, qx4, forall_const, vun, simprocAttr, ff_17]) | refine qqj rfl ?_ | refine qqk rfl ?_)
      (first | refine WK.retNil ⟨Or.inr rfl, _, rfl, ?_, ?_⟩ | refine WK.skipNil ⟨Or.inl rfl, _, rfl, ?_, ?_⟩)
      · exact fun z hz => ((kx.trans kx4).keep z (by have := k2.le; omega) (by omega)).trans (k2.keep z hz)
      · simp only [packed, fset_apply, Nat.reduceEqDiff, ↓reduceIte, List.getD_cons_zero, List.getD_cons_succ, ff_17]
        rw [hpr]
    | some s' =>
      rw [hpu] at hpr hc4
      simp only [Option.getD_some, Option.isSome_some, if_true] at hc4
      rw [← htj] at hc4
      simp (config := {maxSteps:=999999}) only [SS, qx4, forall_const, vun, simprocAttr, Option.isSome_some, ff_17]
      repeat (first | refine qqn rfl ?_ | ((first | (refine WK.rgn ?_ ?_; kernel_rfl) | refine AtCall.now ?_); simp (config := {maxSteps:=999999}) only [SS, qx4, forall_const, vun, simprocAttr, f12, hwj, ff_17]) | refine qqj rfl ?_ | refine qqk rfl ?_)
      refine ih (w.length - (j + 1)) (by omega) _ ⟨j + 1, y4, x4, s', kx.trans kx4, f5, f10, f11, ?_, hlt, hc4, hk3.push hpu, by rw [pushS_len hpu]; omega, hpr, rfl⟩
      simp only [packed, fset_apply, Nat.reduceEqDiff, ↓reduceIte, List.getD_cons_zero, List.getD_cons_succ, f12, hwj, ff_17]
  · have hje : j = w.length := by omega
    repeat (first | refine qqn rfl ?_ | ((first | (refine WK.rgn ?_ ?_; kernel_rfl) | refine AtCall.now ?_); simp (config := {maxSteps:=999999}) only [SS, qx4, forall_const, vun, simprocAttr, f5, f10, f11, f12, hlt, ff_17]) | refine qqj rfl ?_ | refine qqk rfl ?_)
    refine AtCall.by (accm_gives st hw3 hS3 hc3 hk3 (by omega)) ?_
    rintro v n4 H4 hk4 rfl
    simp (config := {maxSteps:=999999}) only [SS, qx4, forall_const, vun, simprocAttr, ff_17]
    repeat (first | refine qqn rfl ?_ | ((first | (refine WK.rgn ?_ ?_; kernel_rfl) | refine AtCall.now ?_); simp (config := {maxSteps:=999999}) only [SS, qx4, forall_const, vun, simprocAttr, ff_17]) | refine qqj rfl ?_ | refine qqk rfl ?_)
    (first | refine WK.retNil ⟨Or.inr rfl, _, rfl, ?_, ?_⟩ | refine WK.skipNil ⟨Or.inl rfl, _, rfl, ?_, ?_⟩)
    · exact fun z hz => (hk4.keep z (by have := k2.le; omega)).trans ((kx.keep z (by have := k2.le; omega) (by omega)).trans (k2.keep z hz))
    · simp only [packed, fset_apply, Nat.reduceEqDiff, ↓reduceIte, List.getD_cons_zero, List.getD_cons_succ, ff_17]
      rw [hpr, hje, List.drop_length]
      rfl
end Go.Proofs.Ytpdlmpbhohinpaa

namespace Go.Proofs.Ytpdlmpbhohinpaa
open Go.AM Go.RowKit
set_option maxRecDepth 100000
set_option maxHeartbeats 4000000 in
theorem few17_gives {g : Gram} {n : Nat} {H : Heap} {v : Value} (hw : WF n H) (hg : RG H v g) (wg : WG g) :
    Gives Try.prog 9 [v] n H fun r _ _ => ∃ t, r = .bool t ∧ (t = true → few g = true ∧ RightOK g) := by
  have hg0 := hg
  obtain ⟨pt0, pv0, pr0, rfl, ht, hv, hr⟩ := hg
  refine Gives.of orders ok9 (Nat.le_of_ble_eq_true rfl) ?_
  have hk := Kp.new n H (.cells (gcells pt0 pv0 pr0 g) 25 true)
  have hb := hset_at H n (.cells (gcells pt0 pv0 pr0 g) 25 true)
  have hw1 := hk.wf hw
  have hg1 := hg0.mono hw hk
  repeat (first | refine qqn rfl ?_)
  (refine WK.rgn ?_ ?_; kernel_rfl; simp (config := {maxSteps:=999999}) only [SS, qx38, forall_const, simprocAttr, box_cells, box_one, ff_9])
  generalize hset H n (.cells (gcells pt0 pv0 pr0 g) 25 true) = H1 at *
  repeat (first | refine qqn rfl ?_ | ((first | (refine WK.rgn ?_ ?_; kernel_rfl) | refine AtCall.now ?_); simp (config := {maxSteps:=999999}) only [SS, qx38, forall_const, simprocAttr, hb, gc_len, gc_all, ff_9]) | refine qqj rfl ?_ | refine qqk rfl ?_)
  refine AtCall.by (few_gives hw1 hg1 wg) ?_
  rintro v n2 H2 hk2 rfl
  have kk := hk.trans hk2
  cases hf : few g with
  | false =>
    simp (config := {maxSteps:=999999}) only [SS, qx38, forall_const, simprocAttr, ff_9]
    repeat (first | refine qqn rfl ?_ | ((first | (refine WK.rgn ?_ ?_; kernel_rfl) | refine AtCall.now ?_); simp (config := {maxSteps:=999999}) only [SS, qx38, forall_const, simprocAttr, ff_9]) | refine qqj rfl ?_ | refine qqk rfl ?_)
    (first | refine WK.retNil ⟨Or.inr rfl, _, rfl, ?_, ?_⟩ | refine WK.skipNil ⟨Or.inl rfl, _, rfl, ?_, ?_⟩)
    · exact kk.keep
    · simp only [packed, fset_apply, Nat.reduceEqDiff, ↓reduceIte, List.getD_cons_zero, List.getD_cons_succ, ff_9]
      exact ⟨false, rfl, fun h => by cases h⟩
  | true =>
    have hb2 := (hk2.keep n (by omega)).trans hb
    simp (config := {maxSteps:=999999}) only [SS, qx38, forall_const, simprocAttr, hb2, gc_len, gc_all, ff_9]
    refine AtCall.by (right_gives (hk2.wf hw1) (hg0.mono hw kk) wg) ?_
    rintro v n3 H3 hk3 ⟨t, rfl, h⟩
    simp (config := {maxSteps:=999999}) only [SS, qx38, forall_const, simprocAttr, ff_9]
    repeat (first | refine qqn rfl ?_ | ((first | (refine WK.rgn ?_ ?_; kernel_rfl) | refine AtCall.now ?_); simp (config := {maxSteps:=999999}) only [SS, qx38, forall_const, simprocAttr, ff_9]) | refine qqj rfl ?_ | refine qqk rfl ?_)
    (first | refine WK.retNil ⟨Or.inr rfl, _, rfl, ?_, ?_⟩ | refine WK.skipNil ⟨Or.inl rfl, _, rfl, ?_, ?_⟩)
    · exact (kk.trans hk3).keep
    · simp only [packed, fset_apply, Nat.reduceEqDiff, ↓reduceIte, List.getD_cons_zero, List.getD_cons_succ, ff_9]
      exact ⟨t, rfl, h⟩
end Go.Proofs.Ytpdlmpbhohinpaa

namespace Go.Proofs.Ytpdlmpbhohinpaa
open Go.AM
set_option maxRecDepth 100000
theorem alive_ev : (evCallT Try.prog (fun g => fns.contains g) 20000 0 8 [] (ngl Try.prog) (.bare 14 0)).map (·.1) = some (.bool true) := by kernel_rfl
theorem alive_gives (n : Nat) (H : Heap) : Gives Try.prog 8 [] n H fun v n' H' => v = .bool true ∧ n' = n ∧ H' = H := by
  have h := alive_ev
  cases he : evCallT Try.prog (fun g => fns.contains g) 20000 0 8 [] (ngl Try.prog) (.bare 14 0) with
  | none => rw [he] at h; cases h
  | some r =>
    obtain ⟨v, n1, H1⟩ := r
    rw [he] at h
    simp only [Option.map_some, Option.some.injEq] at h
    subst h
    obtain ⟨h1, _⟩ := evCall_sound orders (fnOK_of fns_ok) 20000 _ _ _ _ _ _ _ _ (evCallT_sound he)
    exact ⟨.bool true, n, H, .closed h1 (fun _ _ => rfl) (fun x hx => absurd rfl hx), Kp.refl n H, rfl, rfl, rfl⟩
end Go.Proofs.Ytpdlmpbhohinpaa

namespace Go.Proofs.Ytpdlmpbhohinpaa
open Go.AM
set_option maxRecDepth 100000
theorem und_22 : Try.prog.underlying 22 = some (.slice 9) := by kernel_rfl
theorem und_23 : Try.prog.underlying 23 = some (.slice 55) := by kernel_rfl
theorem und_25 : ∃ f1 f2 f3 : Field, Try.prog.underlying 25 = some (.struct #[f1, f2, f3]) ∧ f1.type = 22 ∧ f1.offset = 0 ∧ f2.type = 22 ∧ f2.offset = 1 ∧ f3.type = 23 ∧ f3.offset = 2 :=
  ⟨{ name := "Terms", type := 22, offset := 0, embedded := false, tag := "", pkgPath := "", byteOffset := 0 }, { name := "Vars", type := 22, offset := 1, embedded := false, tag := "", pkgPath := "", byteOffset := 24 },
    { name := "Rules", type := 23, offset := 2, embedded := false, tag := "", pkgPath := "", byteOffset := 48 }, by kernel_rfl, rfl, rfl, rfl, rfl, rfl, rfl⟩
theorem und_55 : ∃ f1 f2 f3 : Field, Try.prog.underlying 55 = some (.struct #[f1, f2, f3]) ∧ f1.type = 3 ∧ f1.offset = 0 ∧ f2.type = 26 ∧ f2.offset = 1 ∧ f3.type = 53 ∧ f3.offset = 2 :=
  ⟨{ name := "Left", type := 3, offset := 0, embedded := false, tag := "", pkgPath := "", byteOffset := 0 }, { name := "Right", type := 26, offset := 1, embedded := false, tag := "", pkgPath := "", byteOffset := 8 },
    { name := "Weight", type := 53, offset := 2, embedded := false, tag := "", pkgPath := "", byteOffset := 32 }, by kernel_rfl, rfl, rfl, rfl, rfl, rfl, rfl⟩
theorem gramT : GramT Try.prog 25 55 3 9 22 23 26 53 := ⟨und_25, und_55, und_3, und_9, und_22, und_23, und_26, und_53, csz_3, csz_9, csz_22, csz_23, csz_26, csz_53, csz_55, csz_25⟩
theorem own : ownKnob Try.prog.godebug = none := by kernel_rfl
theorem laid : laidOutB Try.prog = true := by kernel_rfl
theorem plain_all : ([25, 3, 26].all fun t => plainT Try.prog 10 t && Try.prog.readableRec t && decide (t < Try.prog.types.size)) = true := by kernel_rfl
theorem plain_of {t : TypeId} (h : t ∈ [25, 3, 26]) : plainT Try.prog 10 t = true ∧ Try.prog.readableRec t = true ∧ t < Try.prog.types.size := by
  have := List.all_eq_true.1 plain_all t h
  simp only [Bool.and_eq_true, decide_eq_true_eq] at this
  exact ⟨this.1.1, this.1.2, this.2⟩
end Go.Proofs.Ytpdlmpbhohinpaa

namespace Go.Proofs.Ytpdlmpbhohinpaa
open Go.AM Go.RowKit
set_option maxRecDepth 100000
theorem aop_slnil {P : Program} {f : Fr} {n : Nat} {H : Heap} {d : Option Nat} {t e : TypeId} {x h : Operand} {ty : TypeId} {p : String} {af : Array Edge} {gd : Option (Nat × Bool)} (he : P.underlying t = some (.slice e)) (hj : (P.info? e).isSome = true) (hx : evalA f x = .slice none 0 0) (hh : evalA f h = .int .i64 ((0 : Nat) : Int)) :
    aop P (evalA f) n H ⟨d, .slice t x none (some h) none, ty, p, af, gd⟩ = some { v := .slice none 0 0 } := by
  show (match evalA f x with | .slice a b c => aslice P H t (.slice a b c) (Option.map (evalA f) none) (Option.map (evalA f) (some h)) | .pointer a => _ | _ => _) = _
  rw [hx]
  show aslice P H t (.slice none 0 0) none (some (evalA f h)) = _
  rw [hh]
  unfold aslice
  rw [he]
  obtain ⟨j, hj⟩ := Option.isSome_iff_exists.1 hj
  simp only [hj]
  rfl
theorem inf_int : (Try.prog.info? 3).isSome = true := by kernel_rfl
def AO (H : Heap) (p : Option Addr) : Prop := ∀ x k sp, p = some ⟨x, k, sp⟩ → ∀ cs ty own, H x = .cells cs ty own → own = false
theorem intsO {P : Program} {H : Heap} {t e : TypeId} {p : Option Addr} {m c : Nat} (ht : P.underlying t = some (.slice e)) (ha : aggT P t = some false) (h : ARV P H t (.slice p m c)) : AO H p := by
  intro x k sp hp cs ty own hx
  subst hp
  obtain ⟨h1, _, h3⟩ := h
  rw [vcells_one (h3 ha)] at h1
  rcases h1.slice_inv ht with h4 | ⟨y, m, ds, e4, hy, _⟩
  · simp at h4
  · simp at e4
    obtain ⟨⟨rfl, rfl, rfl⟩, _⟩ := e4
    rw [hy] at hx
    cases hx
    rfl
end Go.Proofs.Ytpdlmpbhohinpaa

namespace Go.Proofs.Ytpdlmpbhohinpaa
open Go.AM Go.RowKit
set_option maxRecDepth 100000
def RRO (H : Heap) (a : Option Addr) (l : List GRule) : Prop := ∀ i (hi : i < l.length), ∃ z kz ds ty own p, a = some ⟨z, kz, none⟩ ∧ H z = .cells ds ty own ∧ ds[kz + i * 3 + 1]? = some (.slice p l[i].right.length l[i].right.length) ∧ RS (Value.int .i64) H p l[i].right ∧ AO H p
theorem rro_of {H : Heap} {a : Option Addr} {l : List GRule} (h : RR H a l) (ho : AllRO H) : RRO H a l := fun i hi => by
  obtain ⟨x, k, cs, ty, own, p, e1, e2, c1, c2, c3, c4⟩ := h.atS hi
  exact ⟨x, k, cs, ty, own, p, e1, e2, c2, c4, fun y k sp hp cs ty own hy => ho y cs ty own hy⟩
theorem RRO.sub {S H : Heap} {a : Option Addr} {l : List GRule} (h : RRO S a l) (hs : Sub S H) : RRO H a l := fun i hi => by
  obtain ⟨z, kz, ds, ty, own, p, e1, e2, e3, e4, e5⟩ := h i hi
  refine ⟨z, kz, ds, ty, own, p, e1, hs.at e2, e3, e4.sub hs, fun x k sp hp cs ty own hx => ?_⟩
  rcases e4 with ⟨rfl, _⟩ | ⟨x2, k2, cs2, ty2, own2, f1, f2, _⟩
  · cases hp
  · have hp' := hp
    rw [f1] at hp'
    cases hp'
    have := hs.at f2
    rw [hx] at this
    cases this
    exact e5 x _ _ hp _ _ _ f2
theorem aop_slnil2 {P : Program} {f : Fr} {n : Nat} {H : Heap} {d : Option Nat} {t e : TypeId} {x h : Operand} {ty : TypeId} {p : String} {af : Array Edge} {gd : Option (Nat × Bool)} (he : P.underlying t = some (.slice e)) (hj : (P.info? e).isSome = true) (hx : evalA f x = .slice none 0 0) (hh : evalA f h = .int .i64 ((0 : Nat) : Int)) :
    aop P (evalA f) n H ⟨d, .slice t x (some h) none none, ty, p, af, gd⟩ = some { v := .slice none 0 0 } := by
  show (match evalA f x with | .slice a b c => aslice P H t (.slice a b c) (Option.map (evalA f) (some h)) (Option.map (evalA f) none) | .pointer a => _ | _ => _) = _
  rw [hx]
  show aslice P H t (.slice none 0 0) (some (evalA f h)) none = _
  rw [hh]
  unfold aslice
  rw [he]
  obtain ⟨j, hj⟩ := Option.isSome_iff_exists.1 hj
  simp only [hj]
  rfl
set_option maxHeartbeats 8000000 in
theorem rest_gives {S H : Heap} {N o n d : Nat} {pt pv pr pg pe pc : Option Addr} {g : Gram} {gd em : List Bool} {co : List Nat} {sv wv : Value} {x : It} (st : Stat S N pr pg pe pc g gd em co) (hro : RRO S pr g.rules) (hw : WF n H) (hS : Sub S H)
    (ho : H o = .cells (chC pt pv pr pg pe pc g gd em co sv wv) 62 true) (hx : x.1 < g.rules.length) (hd : d ≤ (rgt g x.1).length) (hcap : ∀ k ∈ co, k ≤ farN) :
    Gives Try.prog 49 [.pointer (some ⟨o, 0, none⟩), itV x, .int .i64 (d : Nat)] n H fun v _ _ => v = .int .i64 (restN g (cF co) x d : Nat) := by
  refine Gives.of orders ok49 (Nat.le_of_ble_eq_true rfl) ?_
  have hk := Kp.new n H (.cells (itC x) 74 true)
  have hb := hset_at H n (.cells (itC x) 74 true)
  have hon : o < n := Classical.byContradiction fun hc => by rw [hw o (by omega)] at ho; cases ho
  have ho1 := (hk.keep o hon).trans ho
  have hS1 := hS.kp hw hk
  repeat (first | refine qqn rfl ?_)
  (refine WK.rgn ?_ ?_; kernel_rfl; simp (config := {maxSteps:=999999}) only [SS, qx32, forall_const, simprocAttr, itvc, itone, ff_49])
  generalize hset H n (.cells (itC x) 74 true) = H1 at *
  have hr8 := st.r8 _ (List.getElem_mem hx)
  have hrl := st.rl
  unfold restN
  rw [rgt_at hx] at hd ⊢
  obtain ⟨z, kz, ds, tz, oz, p, rfl, hz, c1, hp, hao⟩ := (hro.sub hS1) _ hx
  have hcoL := st.coL
  rcases hp with ⟨rfl, hnil⟩ | ⟨zp, kp, dsp, tp, op, rfl, hzp, hlp, hep⟩
  · have hd0 : d = 0 := by rw [hnil] at hd; simpa using hd
    subst hd0
    rw [hnil] at c1 ⊢
    have h00 : ((0 : Nat) < 0) = False := by simp
    repeat (first | refine qqn rfl ?_ | ((first | (refine WK.rgn ?_ ?_; kernel_rfl) | refine AtCall.now ?_); simp (config := {maxSteps:=999999}) only [SS, qx32, forall_const, simprocAttr, hb, ho1, ch2, it0, it1, it2, aop_nc, tnc, hx, hz, c1, List.length_nil, aop_slnil2 und_26 inf_int, ff_49]) | (refine qqj ?_ ?_; focus (simp only [qqs, Nat.reduceEqDiff, ↓reduceIte, hb, ho1, ch2, it0, it1, it2, aop_nc, tnc, hx, hz, c1, List.length_nil, aop_slnil2 und_26 inf_int, ff_49]; done)) | (refine qqk ?_ ?_; focus (simp only [qqs, Nat.reduceEqDiff, ↓reduceIte, hb, ho1, ch2, it0, it1, it2, aop_nc, tnc, hx, hz, c1, List.length_nil, aop_slnil2 und_26 inf_int, ff_49]; done)))
    refine WK.loop (fun k s => s.n = n + 1 ∧ s.H = H1 ∧ s.f 22 = .int .i64 ((0 : Nat) : Int) ∧ s.f 23 = .int .i64 ((0 : Nat) : Int) ∧ s.f 7 = .int .i64 ((0 : Nat) : Int)) 0 ?_ ?_
    · exact ⟨rfl, rfl, rfl, rfl, rfl⟩
    rintro kk ⟨f, n2, H2⟩ ⟨rfl, rfl, f22, f23, f7⟩ ih
    simp only at f22 f23 f7 hk
    repeat (first | refine qqn rfl ?_ | ((first | (refine WK.rgn ?_ ?_; kernel_rfl) | refine AtCall.now ?_); simp (config := {maxSteps:=999999}) only [SS, qx32, forall_const, simprocAttr, f22, f23, f7, h00, ff_49]) | (refine qqj ?_ ?_; focus (simp only [qqs, Nat.reduceEqDiff, ↓reduceIte, f22, f23, f7, h00, ff_49]; done)) | (refine qqk ?_ ?_; focus (simp only [qqs, Nat.reduceEqDiff, ↓reduceIte, f22, f23, f7, h00, ff_49]; done)))
    (first | refine WK.retNil ⟨Or.inr rfl, _, rfl, ?_, ?_⟩ | refine WK.skipNil ⟨Or.inl rfl, _, rfl, ?_, ?_⟩)
    · exact hk.keep
    · simp only [packed, fset_apply, Nat.reduceEqDiff, ↓reduceIte, List.getD_cons_zero, List.getD_cons_succ, f7, ff_49]
      rfl
  · have hop : op = false := hao _ _ _ rfl _ _ _ hzp
    subst hop
    repeat (first | refine qqn rfl ?_ | ((first | (refine WK.rgn ?_ ?_; kernel_rfl) | refine AtCall.now ?_); simp (config := {maxSteps:=999999}) only [SS, qx32, forall_const, simprocAttr, hb, ho1, ch2, it0, it1, it2, aop_nc, tnc, hx, hz, c1, hzp, hd, false_implies, Bool.false_eq_true, ff_49]) | (refine qqj ?_ ?_; focus (simp only [qqs, Nat.reduceEqDiff, ↓reduceIte, hb, ho1, ch2, it0, it1, it2, aop_nc, tnc, hx, hz, c1, hzp, hd, false_implies, Bool.false_eq_true, ff_49]; done)) | (refine qqk ?_ ?_; focus (simp only [qqs, Nat.reduceEqDiff, ↓reduceIte, hb, ho1, ch2, it0, it1, it2, aop_nc, tnc, hx, hz, c1, hzp, hd, false_implies, Bool.false_eq_true, ff_49]; done)))
    have hLl : (g.rules[x.1].right.drop d).length = g.rules[x.1].right.length - d := List.length_drop
    have hLe : ∀ (i : Nat) (y : Int), (g.rules[x.1].right.drop d)[i]? = some y → dsp[kp + d + i]? = some (.int .i64 y) := fun i y e => by
      rw [List.getElem?_drop] at e
      rw [Nat.add_assoc]; exact hep _ _ e
    have hLs : ∀ s ∈ g.rules[x.1].right.drop d, inI s ∧ s < g.vars.length := fun s hs => st.sym _ (List.getElem_mem hx) s (List.mem_of_mem_drop hs)
    have hL8 : (g.rules[x.1].right.drop d).length ≤ 8 := by rw [hLl]; omega
    rw [← hLl]
    generalize g.rules[x.1].right.drop d = L at *
    refine WK.loop (fun k2 s => ∃ j : Nat, s.n = n + 1 ∧ s.H = H1 ∧ s.f 0 = .pointer (some ⟨o, 0, none⟩) ∧ s.f 21 = .slice (some ⟨zp, kp + d, none⟩) L.length L.length ∧ s.f 22 = .int .i64 (L.length : Nat) ∧ s.f 23 = .int .i64 (j : Nat) ∧ s.f 7 = .int .i64 (sumF (cF co) 0 (L.take j) : Nat) ∧ j ≤ L.length ∧ k2 = L.length - j) L.length ?_ ?_
    · exact ⟨0, rfl, rfl, rfl, rfl, rfl, rfl, rfl, Nat.zero_le _, rfl⟩
    rintro kk ⟨f, n2, H2⟩ ⟨j, rfl, rfl, f0, f21, f22, f23, f7, hj, rfl⟩ ih
    simp only at f0 f21 f22 f23 f7 ih ho1 hzp hk hS1
    by_cases hlt : j < L.length
    · have hLj := hLe j _ (List.getElem?_eq_getElem hlt)
      have htj : L.take (j + 1) = L.take j ++ [L[j]] := List.take_succ_eq_append_getElem hlt
      have hsn := sumF_snoc (cF co) (L.take j) 0 L[j]
      rw [← htj] at hsn
      have hle := sumF_le (cF co) (L.take j) 0
      rw [List.length_take] at hle
      have hwj : IntKind.wrap .i64 ((j : Int) + 1) = ((j + 1 : Nat) : Int) := by rw [wrap_in (by omega) (by omega)]; rfl
      have hfar : farN = 1073741824 := rfl
      obtain ⟨hs1, hs2⟩ := hLs _ (List.getElem_mem hlt)
      generalize sumF (cF co) 0 (L.take j) = a at *
      repeat (first | refine qqn rfl ?_ | ((first | (refine WK.rgn ?_ ?_; kernel_rfl) | refine AtCall.now ?_); simp (config := {maxSteps:=999999}) only [SS, qx32, forall_const, simprocAttr, f0, f21, f22, f23, f7, hlt, hzp, hLj, ff_49]) | (refine qqj ?_ ?_; focus (simp only [qqs, Nat.reduceEqDiff, ↓reduceIte, f0, f21, f22, f23, f7, hlt, hzp, hLj, ff_49]; done)) | (refine qqk ?_ ?_; focus (simp only [qqs, Nat.reduceEqDiff, ↓reduceIte, f0, f21, f22, f23, f7, hlt, hzp, hLj, ff_49]; done)))
      refine AtCall.by (isVar_gives _ _ _) ?_
      rintro v n3 H3 hk3 ⟨rfl, rfl, rfl⟩
      by_cases h0 : 0 ≤ L[j]
      · obtain ⟨s, hs⟩ := Int.eq_ofNat_of_zero_le h0
        have hsl : s < co.length := by rw [hcoL]; omega
        obtain ⟨zc, kc, dc, tc, oc, rfl, hzc, ec⟩ := (st.coA.sub hS1).at hsl
        have hcs : cF co s = co[s] := by simp [cF, hsl]
        have hcc := hcap _ (List.getElem_mem hsl)
        rw [if_neg (by omega), hs, Int.toNat_natCast, hcs] at hsn
        have hadd : IntKind.wrap .i64 ((a : Int) + (co[s] : Int)) = ((a + co[s] : Nat) : Int) := by rw [wrap_in (by omega) (by omega)]; rfl
        have hmin : (if (1073741824 : Int) < ((a + co[s] : Nat) : Int) then (1073741824 : Int) else ((a + co[s] : Nat) : Int)) = ((min (a + co[s]) farN : Nat) : Int) := by rw [hfar]; split <;> omega
        have h0s : (0 : Int) ≤ (s : Int) := by omega
        simp (config := {maxSteps:=999999}) only [SS, qx32, forall_const, simprocAttr, hs, h0s, ff_49]
        repeat (first | refine qqn rfl ?_ | ((first | (refine WK.rgn ?_ ?_; kernel_rfl) | refine AtCall.now ?_); simp (config := {maxSteps:=999999}) only [SS, qx32, forall_const, simprocAttr, f0, f23, f7, hs, h0s, ho1, ch5, hsl, hzc, ec, aop_nc, tnc, numC, hadd, aop_min, tmm, Bool.false_eq_true, hmin, hwj, ff_49]) | (refine qqj ?_ ?_; focus (simp only [qqs, Nat.reduceEqDiff, ↓reduceIte, f0, f23, f7, hs, h0s, ho1, ch5, hsl, hzc, ec, aop_nc, tnc, numC, hadd, aop_min, tmm, Bool.false_eq_true, hmin, hwj, ff_49]; done)) | (refine qqk ?_ ?_; focus (simp only [qqs, Nat.reduceEqDiff, ↓reduceIte, f0, f23, f7, hs, h0s, ho1, ch5, hsl, hzc, ec, aop_nc, tnc, numC, hadd, aop_min, tmm, Bool.false_eq_true, hmin, hwj, ff_49]; done)))
        refine ih (L.length - (j + 1)) (by omega) _ ⟨j + 1, rfl, rfl, f0, f21, f22, ?_, ?_, hlt, rfl⟩
        · simp only [packed, fset_apply, Nat.reduceEqDiff, ↓reduceIte, List.getD_cons_zero, List.getD_cons_succ, f23, hwj, ff_49]
        · simp only [packed, fset_apply, Nat.reduceEqDiff, ↓reduceIte, List.getD_cons_zero, List.getD_cons_succ, ff_49]
          rw [hsn]
      · rw [if_pos (by omega)] at hsn
        have hadd : IntKind.wrap .i64 ((a : Int) + 1) = ((a + 1 : Nat) : Int) := by rw [wrap_in (by omega) (by omega)]; rfl
        simp (config := {maxSteps:=999999}) only [SS, qx32, forall_const, simprocAttr, ff_49]
        repeat (first | refine qqn rfl ?_ | ((first | (refine WK.rgn ?_ ?_; kernel_rfl) | refine AtCall.now ?_); simp (config := {maxSteps:=999999}) only [SS, qx32, forall_const, simprocAttr, f0, f23, f7, h0, hadd, hwj, ff_49]) | (refine qqj ?_ ?_; focus (simp only [qqs, Nat.reduceEqDiff, ↓reduceIte, f0, f23, f7, h0, hadd, hwj, ff_49]; done)) | (refine qqk ?_ ?_; focus (simp only [qqs, Nat.reduceEqDiff, ↓reduceIte, f0, f23, f7, h0, hadd, hwj, ff_49]; done)))
        refine ih (L.length - (j + 1)) (by omega) _ ⟨j + 1, rfl, rfl, f0, f21, f22, ?_, ?_, hlt, rfl⟩
        · simp only [packed, fset_apply, Nat.reduceEqDiff, ↓reduceIte, List.getD_cons_zero, List.getD_cons_succ, f23, hwj, ff_49]
        · simp only [packed, fset_apply, Nat.reduceEqDiff, ↓reduceIte, List.getD_cons_zero, List.getD_cons_succ, ff_49]
          rw [hsn]
    · have hje : j = L.length := by omega
      repeat (first | refine qqn rfl ?_ | ((first | (refine WK.rgn ?_ ?_; kernel_rfl) | refine AtCall.now ?_); simp (config := {maxSteps:=999999}) only [SS, qx32, forall_const, simprocAttr, f0, f21, f22, f23, f7, hlt, ff_49]) | (refine qqj ?_ ?_; focus (simp only [qqs, Nat.reduceEqDiff, ↓reduceIte, f0, f21, f22, f23, f7, hlt, ff_49]; done)) | (refine qqk ?_ ?_; focus (simp only [qqs, Nat.reduceEqDiff, ↓reduceIte, f0, f21, f22, f23, f7, hlt, ff_49]; done)))
      (first | refine WK.retNil ⟨Or.inr rfl, _, rfl, ?_, ?_⟩ | refine WK.skipNil ⟨Or.inl rfl, _, rfl, ?_, ?_⟩)
      · exact hk.keep
      · simp only [packed, fset_apply, Nat.reduceEqDiff, ↓reduceIte, List.getD_cons_zero, List.getD_cons_succ, f7, ff_49]
        rw [hje, List.take_length]
end Go.Proofs.Ytpdlmpbhohinpaa

namespace Go.Proofs.Ytpdlmpbhohinpaa
open Go.AM Go.RowKit
set_option maxRecDepth 100000
theorem keyOf_13 {P : Program} {kt kx ti : TypeId} {fs gs : Array Field} (hu : P.underlying kt = some (.struct fs)) (hg : P.underlying kx = some (.struct gs)) (hk : P.keyType kt = true) (hn : fs.all (·.name != "_") = true) (hm : gs.all (·.name != "_") = true) (hs : 1 < P.types.size) (hti : P.underlying ti = some (.int .i64)) (hc : P.cellsOf ti = 1) (h3 : P.cellsOf kx = 3) (h4 : P.cellsOf kt = 4)
    (hf : fs.toList.map (fun f => (f.type, f.offset)) = [(ti, 0), (kx, 1)]) (hf2 : gs.toList.map (fun f => (f.type, f.offset)) = [(ti, 0), (ti, 1), (ti, 2)]) {a b c e : Int} (ha : (Lit.int .i64 a).wf = true) (hb : (Lit.int .i64 b).wf = true) (hcc : (Lit.int .i64 c).wf = true) (he : (Lit.int .i64 e).wf = true) : (keyOf P kt (.agg #[.int .i64 e, .int .i64 a, .int .i64 b, .int .i64 c])).isSome = true := by
  have hint : ∀ (d : Nat) (n : Int), (Lit.int .i64 n).wf = true → P.keyLits (d + 1) ti [.int .i64 n] = some [.int .i64 n] := by
    intro d n hw
    unfold Program.keyLits
    simp only [hti]
    rw [if_pos ⟨trivial, hw⟩]
  obtain ⟨d, hd⟩ : ∃ d, P.types.size = d + 2 := ⟨P.types.size - 2, by omega⟩
  have hx : P.keyLits (d + 2) kx [.int .i64 a, .int .i64 b, .int .i64 c] = some [.int .i64 a, .int .i64 b, .int .i64 c] := by
    have hm2 : (gs.toList.mapM fun f => P.keyLits (d + 1) f.type ((([.int .i64 a, .int .i64 b, .int .i64 c] : List Value).drop f.offset).take (P.cellsOf f.type))) = some [[.int .i64 a], [.int .i64 b], [.int .i64 c]] := by
      have e : (fun f : Field => P.keyLits (d + 1) f.type ((([.int .i64 a, .int .i64 b, .int .i64 c] : List Value).drop f.offset).take (P.cellsOf f.type))) = (fun p : TypeId × Nat => P.keyLits (d + 1) p.1 ((([.int .i64 a, .int .i64 b, .int .i64 c] : List Value).drop p.2).take (P.cellsOf p.1))) ∘ (fun f : Field => (f.type, f.offset)) := rfl
      rw [e, ← List.mapM_map, hf2]
      simp [hc, hint _ _ ha, hint _ _ hb, hint _ _ hcc]
    rw [show d + 2 = (d + 1) + 1 from rfl]
    unfold Program.keyLits
    simp only [hg]
    rw [if_pos ⟨by rw [h3]; rfl, hm⟩, hm2]
    rfl
  unfold keyOf
  rw [hu]
  simp only
  have hfm : Value.formed P kt (.agg #[.int .i64 e, .int .i64 a, .int .i64 b, .int .i64 c]) = true := by
    unfold Value.formed
    simp [hu, h4]
  rw [hk, hfm]
  have hl : P.keyLits (P.types.size + 1) kt [.int .i64 e, .int .i64 a, .int .i64 b, .int .i64 c] = some [.int .i64 e, .int .i64 a, .int .i64 b, .int .i64 c] := by
    have hm2 : (fs.toList.mapM fun f => P.keyLits (d + 2) f.type ((([.int .i64 e, .int .i64 a, .int .i64 b, .int .i64 c] : List Value).drop f.offset).take (P.cellsOf f.type))) = some [[.int .i64 e], [.int .i64 a, .int .i64 b, .int .i64 c]] := by
      have e : (fun f : Field => P.keyLits (d + 2) f.type ((([.int .i64 e, .int .i64 a, .int .i64 b, .int .i64 c] : List Value).drop f.offset).take (P.cellsOf f.type))) = (fun p : TypeId × Nat => P.keyLits (d + 2) p.1 ((([.int .i64 e, .int .i64 a, .int .i64 b, .int .i64 c] : List Value).drop p.2).take (P.cellsOf p.1))) ∘ (fun f : Field => (f.type, f.offset)) := rfl
      rw [e, ← List.mapM_map, hf]
      simp [hc, h3, hint _ _ he, hx]
    rw [hd]
    unfold Program.keyLits
    simp only [hu]
    rw [if_pos ⟨by rw [h4]; rfl, hn⟩, hm2]
    rfl
  show (Option.map _ (P.keyLits (P.types.size + 1) kt [.int .i64 e, .int .i64 a, .int .i64 b, .int .i64 c])).isSome = true
  rw [hl]
  rfl
def spC (s : Sp) : List Value := .int .i64 (s.1 : Nat) :: itC s.2
def spV (s : Sp) : Value := .agg (spC s).toArray
theorem spC_inj {x y : Sp} (h : spC x = spC y) : x = y := by
  unfold spC at h
  simp only [List.cons.injEq, Value.int.injEq, true_and] at h
  obtain ⟨a, b⟩ := x
  obtain ⟨a', b'⟩ := y
  have := itC_inj h.2
  simp only at this h
  subst this
  have : a = a' := by omega
  rw [this]
def entsN (M : List (Sp × Nat)) : List MapEntry := M.zipIdx.map fun p => ⟨spV p.1.1, .int .i64 (p.1.2 : Nat), p.2⟩
def MN (M : List (Sp × Nat)) : AObj := .map (entsN M) M.length 81
theorem entsN_snoc (M : List (Sp × Nat)) (e : Sp × Nat) : entsN (M ++ [e]) = entsN M ++ [⟨spV e.1, .int .i64 (e.2 : Nat), M.length⟩] := by
  unfold entsN
  rw [List.zipIdx_append, List.map_append]
  simp
theorem veq_sp (x y : Sp) : veq (spV x) (spV y) = decide (x = y) := by
  by_cases h : x = y
  · subst h
    have : veqs (spC x) (spC x) = true := by simp [spC, itC, veqs, veq1]
    simp only [decide_true]
    exact this
  · simp only [h, decide_false]
    cases hv : veq (spV x) (spV y) with
    | false => rfl
    | true =>
      have := veqs_eq (show veqs (spC x) (spC y) = true from hv)
      exact absurd (spC_inj this) h
theorem wide_sp : wideK Try.prog 81 = true := by kernel_rfl
def smS (s : Sp) : Prop := s.1 ≤ 1000000 ∧ smI s.2
noncomputable def fsS : Array Field := match Try.prog.underlying 81 with
  | some (.struct fs) => fs
  | _ => #[]
theorem key_sp {x : Sp} (h : smS x) : (keyOf Try.prog 81 (spV x)).isSome = true :=
  keyOf_13 (fs := fsS) (gs := fsI) (kx := 74) (ti := 3) (by kernel_rfl) (by kernel_rfl) (by kernel_rfl) (by kernel_rfl) (by kernel_rfl) (Nat.le_of_ble_eq_true (by kernel_rfl)) (by kernel_rfl) (by kernel_rfl) (by kernel_rfl) (by kernel_rfl) (by kernel_rfl) (by kernel_rfl) (wf_nat h.2.1) (wf_nat h.2.2.1) (wf_nat h.2.2.2) (wf_nat h.1)
theorem und_mapN : Try.prog.underlying 78 = some (.map 81 3) := by kernel_rfl
theorem zero_int : ((Try.prog.info? 3).bind (·.zero)) = some (.int .i64 (Int.ofNat 0)) := by kernel_rfl
theorem find_sp {x : Sp} (hs : smS x) (M : List (Sp × Nat)) : afind Try.prog 81 (spV x) (entsN M) = some ((entsN M).findIdx? fun e => veq e.key (spV x)) := by
  unfold afind
  rw [if_pos ⟨wide_sp, rfl, key_sp hs⟩]
def entsF (M : List (Sp × Nat)) (k : Nat) : List MapEntry := (M.zipIdx k).map fun p => ⟨spV p.1.1, .int .i64 (p.1.2 : Nat), p.2⟩
theorem find_gets (x : Sp) : ∀ (M : List (Sp × Nat)) (k : Nat), ((entsF M k).findIdx? fun e => veq e.key (spV x)) = (M.findIdx? fun e => decide (e.1 = x)) := by
  intro M
  induction M with
  | nil => intro k; rfl
  | cons e M ih =>
    intro k
    unfold entsF
    rw [List.zipIdx_cons, List.map_cons, List.findIdx?_cons, List.findIdx?_cons, veq_sp]
    show _ = _
    rw [show List.map (fun p => (⟨spV p.1.1, .int .i64 (p.1.2 : Nat), p.2⟩ : MapEntry)) (M.zipIdx (k + 1)) = entsF M (k + 1) from rfl, ih]
theorem get_none {x : Sp} : ∀ {M : List (Sp × Nat)}, (M.findIdx? fun e => decide (e.1 = x)) = none → getM M x = none ∧ ∀ n, setM M x n = M ++ [(x, n)] := by
  intro M
  induction M with
  | nil => intro _; exact ⟨rfl, fun n => rfl⟩
  | cons e M ih =>
    intro h
    rw [List.findIdx?_cons] at h
    by_cases he : e.1 = x
    · simp [he] at h
    · simp only [he, decide_false, Bool.false_eq_true, if_false, Option.map_eq_none_iff] at h
      obtain ⟨h1, h2⟩ := ih h
      simp only [getM, if_neg he, setM]
      exact ⟨h1, fun n => by rw [h2]; rfl⟩
theorem get_some {x : Sp} : ∀ {M : List (Sp × Nat)} {i : Nat}, (M.findIdx? fun e => decide (e.1 = x)) = some i → ∃ m, M[i]? = some (x, m) ∧ getM M x = some m ∧ ∀ n, setM M x n = M.set i (x, n) := by
  intro M
  induction M with
  | nil => intro i h; cases h
  | cons e M ih =>
    intro i h
    rw [List.findIdx?_cons] at h
    by_cases he : e.1 = x
    · simp [he] at h
      subst h
      subst he
      exact ⟨e.2, rfl, by simp [getM], fun n => by simp [setM]⟩
    · simp only [he, decide_false, Bool.false_eq_true, if_false, Option.map_eq_some_iff] at h
      obtain ⟨j, hj, rfl⟩ := h
      obtain ⟨m, h1, h2, h3⟩ := ih hj
      refine ⟨m, by simpa using h1, ?_, fun n => ?_⟩
      · simp only [getM, if_neg he]; exact h2
      · simp only [setM, if_neg he, h3]; rfl
theorem entsN_set {M : List (Sp × Nat)} {i : Nat} {x : Sp} {m n : Nat} (h : M[i]? = some (x, m)) : (entsN M).modify i (fun e => { e with val := .int .i64 (n : Nat) }) = entsN (M.set i (x, n)) := by
  apply List.ext_getElem?
  intro j
  unfold entsN
  rw [List.getElem?_modify, List.getElem?_map, List.getElem?_map, List.getElem?_zipIdx, List.getElem?_zipIdx, List.getElem?_set]
  by_cases hij : i = j
  · subst hij
    obtain ⟨hi, he⟩ := List.getElem?_eq_some_iff.1 h
    simp [hi, he]
  · simp [hij]
theorem look_sp {H : Heap} {m : Nat} {M : List (Sp × Nat)} (h : H m = MN M) {x : Sp} (hs : smS x) : alookup Try.prog 78 H (.map (some m)) (spV x) true = some { v := .tuple #[.int .i64 ((getM M x).getD 0 : Nat), .bool (getM M x).isSome], rd := [m] } := by
  unfold MN at h
  unfold alookup
  rw [und_mapN]
  simp only [h, if_pos, find_sp hs]
  have hf := find_gets x M 0
  rw [show entsF M 0 = entsN M from rfl] at hf
  rw [hf]
  cases hx : M.findIdx? fun e => decide (e.1 = x) with
  | none =>
    obtain ⟨h1, _⟩ := get_none hx
    simp only [zero_int, h1]
    rfl
  | some i =>
    obtain ⟨m, h1, h2, _⟩ := get_some hx
    have h3 : (entsN M)[i]? = some ⟨spV x, .int .i64 (m : Nat), i⟩ := by
      unfold entsN
      rw [List.getElem?_map, List.getElem?_zipIdx, h1]
      simp
    simp only [h3, h2]
    rfl
theorem set_sp {H : Heap} {m : Nat} {M : List (Sp × Nat)} (h : H m = MN M) {x : Sp} (hs : smS x) (n : Nat) : amapset Try.prog 78 H (.map (some m)) (spV x) (.int .i64 (n : Nat)) = some { v := undef, wr := some (m, MN (setM M x n)) } := by
  unfold MN at h
  unfold amapset
  rw [und_mapN]
  simp only [h, if_pos, find_sp hs]
  have hf := find_gets x M 0
  rw [show entsF M 0 = entsN M from rfl] at hf
  rw [hf]
  cases hx : M.findIdx? fun e => decide (e.1 = x) with
  | none =>
    obtain ⟨_, h2⟩ := get_none hx
    simp only [h2]
    unfold MN
    rw [entsN_snoc, List.length_append]
    rfl
  | some i =>
    obtain ⟨k, h1, _, h3⟩ := get_some hx
    simp only [h3, entsN_set h1]
    unfold MN
    rw [List.length_set]
theorem make_sp (n : Nat) : amake Try.prog n 78 = some { v := .map (some n), news := [MN []] } := by
  unfold amake
  rw [und_mapN]
  rfl
end Go.Proofs.Ytpdlmpbhohinpaa
