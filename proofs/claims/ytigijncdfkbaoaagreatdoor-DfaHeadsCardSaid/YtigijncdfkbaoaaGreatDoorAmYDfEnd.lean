/- A part of a proof. Its conditions: none. -/
import Derived.Test.YtigijncdfkbaoaaGreatDoorAmYSortS
import Derived.Test.YtigijncdfkbaoaaGreatDoorAmYAtMv2
import Derived.Test.YtigijncdfkbaoaaGreatDoorAmYLenS
set_option linter.all false
namespace Go.Proofs.YtigijncdfkbaoaaGreatDoor
open Go.AM
set_option maxRecDepth 100000
set_option maxHeartbeats 4000000 in
theorem index_gives {n : Nat} {H : Heap} {p : Option Addr} {R : List Int} {a : Int} (hw : WF n H) (hR : RA (Value.int .i64) H p R) (hl : R.length ≤ 65536) :
  Gives Tryz.prog 79 [.slice p R.length R.length, .int .i64 a] n H fun v n' H' => ∃ z : Int, v = .int .i64 z ∧ (0 ≤ z ↔ a ∈ R) ∧ n' = n ∧ H' = H := by
 refine Gives.of orders ok79 (Nat.le_of_ble_eq_true rfl) ?_
 repeat (first | refine qqm rfl ?_ | ((first | refine qqr ?_ | refine qqt ?_); simp only [SS, qx14, simprocAttr, ff_79]))
 refine WK.loop (fun kk s => ∃ i : Nat, s.n = n ∧ s.H = H ∧ s.f 0 = .slice p R.length R.length ∧ s.f 1 = .int .i64 a ∧ s.f 7 = .int .i64 (R.length : Nat) ∧ s.f 8 = .int .i64 (i : Nat) ∧ i ≤ R.length ∧ a ∉ R.take i ∧ kk = R.length - i) R.length ?_ ?_
 ·exact ⟨0, rfl, rfl, rfl, rfl, rfl, rfl, Nat.zero_le _, by simp, rfl⟩
 rintro kk ⟨f, n1, H1⟩ ⟨i, e1, e2, f0, f1, f7, f8, hil, hni, rfl⟩ ih
 simp only at e1 e2 f0 f1 f7 f8 ih
 subst e1 e2
 by_cases hlt : i < R.length
 ·have hiw : IntKind.i64.wrap ((i : Int) + 1) = ((i + 1 : Nat) : Int) := by rw [wrap_in (by omega) (by omega)]; rfl
  obtain ⟨z, kz, ds, tz, oz, e0, hz, e⟩ := hR.at hlt
  subst e0
  by_cases he : a = R[i]
  ·have he' : (a = R[i]) = True := eq_true he
   repeat (first | refine qqm rfl ?_ | ((first | refine qqr ?_ | refine qqt ?_); simp only [SS, qx14, simprocAttr, f0, f1, f7, f8, hlt, hz, e, he', decide_true, ff_79]))
   first | refine qqf ?_ ?_ | refine qqg ?_ ?_
   ·exact fun _ _ => rfl
   ·simp only [packed, qv, Nat.reduceEqDiff, ↓reduceIte, ff_79]
    exact ⟨_, rfl, ⟨fun _ => by rw [he]; exact List.getElem_mem hlt, fun _ => by omega⟩, trivial, trivial⟩
  ·repeat (first | refine qqm rfl ?_ | ((first | refine qqr ?_ | refine qqt ?_); simp only [SS, qx14, simprocAttr, f0, f1, f7, f8, hlt, hz, e, he, decide_false, hiw, ff_79]))
   refine ih (R.length - (i + 1)) (by omega) _ ?_
   refine ⟨i + 1, rfl, rfl, f0, f1, f7, rfl, hlt, ?_, rfl⟩
   rw [List.take_add_one, List.getElem?_eq_getElem hlt, List.mem_append]
   rintro (h | h)
   ·exact hni h
   ·simp at h; exact he h
 ·obtain rfl : i = R.length := by omega
  rw [List.take_length] at hni
  repeat (first | refine qqm rfl ?_ | ((first | refine qqr ?_ | refine qqt ?_); simp only [SS, qx14, simprocAttr, f7, f8, hlt, ff_79]))
  first | refine qqf ?_ ?_ | refine qqg ?_ ?_
  ·exact fun _ _ => rfl
  ·simp only [packed, qv, Nat.reduceEqDiff, ↓reduceIte, ff_79]
   exact ⟨_, rfl, ⟨fun h => absurd h (by decide), fun h => absurd h hni⟩, trivial, trivial⟩
theorem contains_gives {n : Nat} {H : Heap} {p : Option Addr} {R : List Int} {a : Int} (hw : WF n H) (hR : RA (Value.int .i64) H p R) (hl : R.length ≤ 65536) :
  Gives Tryz.prog 60 [.slice p R.length R.length, .int .i64 a] n H fun v n' H' => v = .bool (decide (a ∈ R)) ∧ n' = n ∧ H' = H := by
 refine Gives.of orders ok60 (Nat.le_of_ble_eq_true rfl) ?_
 repeat (first | refine qqm rfl ?_ | ((first | refine qqr ?_ | refine qqt ?_); simp only [SS, qx12, simprocAttr]))
 refine AtCall.by (index_gives hw hR hl) ?_
 rintro v n1 H1 k1 ⟨z, rfl, hz, hn1, hH⟩
 subst hn1
 obtain rfl := hH.symm
 have hz' : (0 ≤ z) = (a ∈ R) := propext hz
 simp only [SS, qx12, simprocAttr]
 repeat (first | refine qqm rfl ?_ | ((first | refine qqr ?_ | refine qqt ?_); simp only [SS, qx12, simprocAttr]))
 first | refine qqf ?_ ?_ | refine qqg ?_ ?_
 ·exact fun _ _ => rfl
 ·simp only [packed, qv, Nat.reduceEqDiff, ↓reduceIte, hz']
  exact ⟨trivial, trivial, trivial⟩
theorem rise_len {N : Int} : ∀ (l : List Int) (a : Int), l.Pairwise (· < ·) → (∀ x ∈ l, a ≤ x ∧ x < N) → (l.length : Int) ≤ N - a ∨ l = []
 | [], _, _, _ => .inr rfl
 | x :: l, a, hp, h => by
  obtain ⟨h1, h2⟩ := List.pairwise_cons.1 hp
  have hx := h x (List.mem_cons_self ..)
  rcases rise_len l (x + 1) h2 (fun z hz => ⟨by have := h1 z hz; omega, (h z (List.mem_cons_of_mem _ hz)).2⟩) with h3 | h3
  ·left; rw [List.length_cons]; omega
  ·left; rw [h3]; simp; omega
theorem cmpC_alt {a b : Cfg} (h : cmpC a b < 0) : a.alt ≤ b.alt := by
 rw [cmpC_X] at h
 split at h
 ·omega
 ·unfold cmpI at h
  split at h
  ·omega
  ·split at h <;> omega
def AltsL (l : List Cfg) (R : List Int) : Prop := R.Pairwise (· < ·) ∧ ∀ a, a ∈ R ↔ a ∈ l.map (·.alt)
set_option maxHeartbeats 8000000 in
theorem alts_gives {n : Nat} {H : Heap} {p : Option Addr} {L : List CA} (hw : WF n H) (hL : RN 4 ccell H p L) (hs : Srt L) (hal : ∀ x ∈ L, 0 ≤ x.1.alt ∧ x.1.alt < 48) (hl : L.length ≤ 65536) :
    Gives Tryz.prog 39 [.slice p L.length L.length] n H fun v _ H' => ∃ p' R, v = .slice p' R.length R.length ∧ RA (Value.int .i64) H' p' R ∧ AltsL (L.map (·.1)) R := by
  refine Gives.of orders ok39 (Nat.le_of_ble_eq_true rfl) ?_
  have v1 : ∀ s, vcells (.agg (ccell s).toArray) = ccell s := fun _ => rfl
  have v2 : ∀ s, (ccell s).all one = true := fun _ => rfl
  have v0 : ∀ s, (ccell s)[0]? = some (.int .i64 s.1.alt) := fun _ => rfl
  have v5 : ∀ s, (ccell s).length = 4 := fun _ => rfl
  have v6 : ∀ s, ((ccell s).drop 0).take 4 = ccell s := fun _ => rfl
  have hs4 : ∀ (a b c d : Value) (x : CA), AM.splice [a, b, c, d] 0 (ccell x) = ccell x := fun _ _ _ _ _ => rfl
  repeat (first | refine qqm rfl ?_ | ((first | refine qqr ?_ | refine qqt ?_); simp only [SS, qx5, vun, simprocAttr, ff_39]))
  refine WK.loop (fun kk s => ∃ (i y : Nat) (R : List Int), Kp n H s.n s.H ∧ s.f 6 = .slice p L.length L.length ∧ s.f 7 = .int .i64 (L.length : Nat) ∧ s.f 8 = .int .i64 (i : Nat) ∧ s.f 3 = sl y R.length ∧ (R ≠ [] → n ≤ y ∧ y < s.n ∧ s.H y = .cells (R.map (Value.int .i64)) 3 true) ∧ i ≤ L.length ∧ R.length ≤ i ∧ AltsL ((L.take i).map (·.1)) R ∧ kk = L.length - i) L.length ?_ ?_
  · exact ⟨0, 0, [], Kp.refl _ _, rfl, rfl, rfl, rfl, fun h => absurd rfl h, Nat.zero_le _, Nat.zero_le _, ⟨List.Pairwise.nil, by simp⟩, rfl⟩
  rintro kk ⟨f, n5, H5⟩ ⟨i, y, R, k5, f6, f7, f8, f3, hy, hil, hRl, hR, rfl⟩ ih
  simp only at k5 f6 f7 f8 f3 hy ih
  have hle5 := k5.le
  have hw5 := k5.wf hw
  have hRA : RA (Value.int .i64) H5 (slp y R.length) R := by
    by_cases h0 : R = []
    · subst h0; exact fun h => absurd rfl h
    · obtain ⟨_, _, hyc⟩ := hy h0
      have h1 : 0 < R.length := List.length_pos_iff.2 h0
      rw [slp_pos (by omega)]
      exact fun _ => ⟨y, 0, _, _, true, rfl, hyc, fun i a e => by rw [Nat.zero_add, List.getElem?_map, e]; rfl⟩
  by_cases hlt : i < L.length
  · have hiw : IntKind.i64.wrap ((i : Int) + 1) = ((i + 1 : Nat) : Int) := by rw [wrap_in (by omega) (by omega)]; rfl
    obtain ⟨u, k0, cs, ty, own, q1, q2, q3, q4⟩ := (hL.mono hw k5).at ccell_len hlt
    subst q1
    have hun := live_lt hw5 (live_of q2)
    have kn := Kp.new n5 H5 (.cells (ccell L[i]) 99 true)
    have k5n := k5.trans kn
    have f3' := f3
    rw [sl_eq] at f3'
    have htk : (L.take (i + 1)).map (·.1) = (L.take i).map (·.1) ++ [L[i].1] := by
      rw [List.take_add_one, List.getElem?_eq_getElem hlt, List.map_append]; rfl
    repeat (first | refine qqm rfl ?_ | ((first | refine qqr ?_ | refine qqt ?_); simp only [SS, qx5, vun, simprocAttr, f3', f6, f7, f8, hlt, q2, q3, q4, v0, v1, v2, v5, v6, hs4, hset_at, ff_39]))
    have hnn := hset_at H5 n5 (.cells (ccell L[i]) 99 true)
    generalize hset H5 n5 (.cells (ccell L[i]) 99 true) = H6 at *
    refine AtCall.by (contains_gives (kn.wf hw5) (hRA.mono hw5 kn) (by omega)) ?_
    rintro v n7 H7 k7 ⟨rfl, hn7, hH7⟩
    subst hn7
    obtain rfl := hH7.symm
    by_cases hin : L[i].1.alt ∈ R
    · simp only [SS, qx5, vun, simprocAttr, hin, decide_true, Bool.not_true, ff_39]
      repeat (first | refine qqm rfl ?_ | ((first | refine qqr ?_ | refine qqt ?_); simp only [SS, qx5, vun, simprocAttr, f8, hiw, ff_39]))
      refine ih (L.length - (i + 1)) (by omega) _ ?_
      refine ⟨i + 1, y, R, k5n, f6, f7, rfl, f3, fun h => ⟨(hy h).1, by have := (hy h).2.1; show _ < n5 + 1; omega, (kn.keep y (hy h).2.1).trans (hy h).2.2⟩, hlt, by omega, ⟨hR.1, fun a => ?_⟩, rfl⟩
      rw [hR.2, htk, List.map_append, List.mem_append]
      constructor
      · exact .inl
      · rintro (h | h)
        · exact h
        · simp at h; rw [h]; exact (hR.2 _).1 hin
    · have hR' : AltsL ((L.take (i + 1)).map (·.1)) (R ++ [L[i].1.alt]) := by
        refine ⟨?_, fun a => ?_⟩
        · rw [List.pairwise_append]
          refine ⟨hR.1, List.pairwise_singleton _ _, fun r hr b hb => ?_⟩
          rw [List.mem_singleton] at hb
          rw [hb]
          have hr' := (hR.2 r).1 hr
          rw [List.map_map] at hr'
          obtain ⟨z, hz, rfl⟩ := List.mem_map.1 hr'
          obtain ⟨j, hj, rfl⟩ := List.getElem_of_mem hz
          rw [List.length_take] at hj
          have hle := cmpC_alt (hs.lt hlt (by omega : j < i))
          have e : (L.take i)[j]'(by rw [List.length_take]; omega) = L[j]'(by omega) := List.getElem_take
          have hne : ((L.take i)[j]'(by rw [List.length_take]; omega)).1.alt ≠ L[i].1.alt := fun e' => hin (by rw [← e']; exact hr)
          simp only [Function.comp]
          rw [e] at hne ⊢
          omega
        · rw [htk, List.map_append, List.mem_append, List.mem_append, hR.2]
          simp
      have hz : L[i].1 = L[i].1 := rfl
      generalize L[i] = z at *
      by_cases hR0 : R = []
      · subst hR0
        have hsl0 : slp y ([] : List Int).length = none := rfl
        simp only [SS, qx5, vun, simprocAttr, hin, decide_false, Bool.not_false, ff_39]
        repeat (first | refine qqm rfl ?_ | ((first | refine qqr ?_ | refine qqt ?_); simp only [SS, qx5, vun, simprocAttr, f3, f8, hnn, v0, v5, hiw, hsl0, ff_39]))
        have k6p : ∀ A C, Kp (n5 + 1) H6 (n5 + 1 + 1 + 1) (hset (hset H6 (n5 + 1) A) (n5 + 1 + 1) C) := fun A C => (Kp.new (n5 + 1) H6 A).trans (Kp.new (n5 + 1 + 1) _ C)
        refine ih (L.length - (i + 1)) (by omega) _ ?_
        exact ⟨i + 1, n5 + 1 + 1, [z.1.alt], k5n.trans (k6p _ _), f6, f7, rfl, rfl, fun _ => ⟨by omega, Nat.lt_succ_self _, hset_at _ _ _⟩, hlt, by simp, hR', rfl⟩
      · obtain ⟨hy0, hyn, hyc⟩ := hy hR0
        have hR1 : 0 < R.length := List.length_pos_iff.2 hR0
        rw [sl_pos (by omega)] at f3
        have hyc6 := (kn.keep y hyn).trans hyc
        have hy7 : ∀ o, hset H6 (n5 + 1) o y = _ := fun o => (hset_ne _ _ _ (by omega)).trans hyc6
        have bl : R.length + 1 ≤ bigN := by unfold bigN; omega
        have hct : [n5 + 1].contains y = false := by simp; omega
        have hfl : (R.map (Value.int .i64)).length = R.length := List.length_map _
        have htk2 : (R.map (Value.int .i64)).take R.length = R.map (Value.int .i64) := List.take_of_length_le (by omega)
        simp only [SS, qx5, vun, simprocAttr, hin, decide_false, Bool.not_false, ff_39]
        repeat (first | refine qqm rfl ?_ | ((first | refine qqr ?_ | refine qqt ?_); simp only [SS, qx5, vun, simprocAttr, f3, f8, hnn, v0, v5, hiw, hy7, bl, hct, hfl, htk2, hset_at, Nat.le_refl, List.drop_zero, Nat.mul_one, ff_39]))
        have k6x : ∀ A C, Kx (fun z => z = y) (n5 + 1) H6 (n5 + 1 + 1 + 1) (hset (hset (hset H6 (n5 + 1) A) y .dead) (n5 + 1 + 1) C) := fun A C => (((Kp.new (n5 + 1) H6 A).kx (X := fun z => z = y)).set (x := y) .dead (.inl rfl) (by omega)).trans (Kp.new (n5 + 1 + 1) _ C).kx
        refine ih (L.length - (i + 1)) (by omega) _ ?_
        have k6y := k6x (.cells [.int .i64 z.1.alt] 3 true) (.cells (R.map (Value.int .i64) ++ [.int .i64 z.1.alt]) 3 true)
        refine ⟨i + 1, n5 + 1 + 1, R ++ [z.1.alt], ⟨by show n ≤ n5 + 1 + 1 + 1; omega, fun q hq => (k6y.keep q (by omega) (by omega)).trans (k5n.keep q hq), fun h => k6y.wf (k5n.wf h)⟩, f6, f7, rfl, ?_, fun _ => ⟨by omega, Nat.lt_succ_self _, ?_⟩, hlt, by simp; omega, hR', rfl⟩
        · rw [List.length_append, List.length_singleton, sl_pos (by omega)]; rfl
        · rw [List.map_append]; exact hset_at _ _ _
  · obtain rfl : i = L.length := by omega
    rw [List.take_length] at hR
    repeat (first | refine qqm rfl ?_ | ((first | refine qqr ?_ | refine qqt ?_); simp only [SS, qx5, vun, simprocAttr, f3, f6, f7, f8, hlt, ff_39]))
    have hsort : le2 R := hR.1.imp fun h => Int.le_of_lt h
    by_cases hR0 : R = []
    · subst hR0
      refine AtCall.by (sort0_gives _ _) ?_
      rintro v n6 H6 k6 ⟨hn6, hH6⟩
      subst hn6
      obtain rfl := hH6.symm
      simp only [SS, qx5, vun, simprocAttr, ff_39]
      repeat (first | refine qqm rfl ?_ | ((first | refine qqr ?_ | refine qqt ?_); simp only [SS, qx5, vun, simprocAttr, f3, ff_39]))
      first | refine qqf ?_ ?_ | refine qqg ?_ ?_
      · exact k5.keep
      · simp only [packed, qv, Nat.reduceEqDiff, ↓reduceIte, ff_39]
        exact ⟨none, [], rfl, fun h => absurd rfl h, hR⟩
    · obtain ⟨hy0, hyn, hyc⟩ := hy hR0
      have hR1 : 0 < R.length := List.length_pos_iff.2 hR0
      have hsl0 : sl y R.length = .slice (some ⟨y, 0, none⟩) R.length R.length := sl_pos (by omega)
      have hend : ∀ J : Heap, J y = .cells (R.map (Value.int .i64)) 3 true → RA (Value.int .i64) J (some ⟨y, 0, none⟩) R := fun J hJ _ => ⟨y, 0, _, _, true, rfl, hJ, fun i a e => by rw [Nat.zero_add, List.getElem?_map, e]; rfl⟩
      rw [hsl0] at f3 ⊢
      by_cases h12 : R.length ≤ 12
      · refine AtCall.byX (sort_gives hyc hyn h12) ?_
        rintro v n6 H6 k6 ⟨hn6, hne6, l', hl', hperm, hle⟩
        obtain rfl : l' = R := sorted_eq hperm hle hsort
        simp only [SS, qx5, vun, simprocAttr, ff_39]
        repeat (first | refine qqm rfl ?_ | ((first | refine qqr ?_ | refine qqt ?_); simp only [SS, qx5, vun, simprocAttr, f3, ff_39]))
        first | refine qqf ?_ ?_ | refine qqg ?_ ?_
        · exact fun q hq => (k6.keep q (by omega) (by omega)).trans (k5.keep q hq)
        · simp only [packed, qv, Nat.reduceEqDiff, ↓reduceIte, ff_39]
          exact ⟨some ⟨y, 0, none⟩, _, rfl, hend _ hl', hR⟩
      · have hlen : R.length < 50 := by
          rcases rise_len (N := 48) R 0 hR.1 (fun a ha => by
            have := (hR.2 a).1 ha
            rw [List.map_map] at this
            obtain ⟨z, hz, rfl⟩ := List.mem_map.1 this
            exact hal z hz) with h | h
          · omega
          · exact absurd h hR0
        refine AtCall.by (sortS_gives hw5 hyc (by omega) hlen hsort) ?_
        rintro v n6 H6 k6 _
        simp only [SS, qx5, vun, simprocAttr, ff_39]
        repeat (first | refine qqm rfl ?_ | ((first | refine qqr ?_ | refine qqt ?_); simp only [SS, qx5, vun, simprocAttr, f3, ff_39]))
        first | refine qqf ?_ ?_ | refine qqg ?_ ?_
        · exact (k5.trans k6).keep
        · simp only [packed, qv, Nat.reduceEqDiff, ↓reduceIte, ff_39]
          exact ⟨some ⟨y, 0, none⟩, _, rfl, hend _ ((k6.keep y hyn).trans hyc), hR⟩
end Go.Proofs.YtigijncdfkbaoaaGreatDoor

namespace Go.Proofs.YtigijncdfkbaoaaGreatDoor
open Go.AM
set_option maxRecDepth 100000
theorem startL_mem (g : Gram) (v : Int) : ∀ x ∈ startL g v, x.2 = none ∧ x.1.stack = [] ∧ GC g x.1 := by
 intro x hx
 unfold startL at hx
 split at hx
 case isFalse => simp at hx
 obtain ⟨r, hr, rfl⟩ := List.mem_map.1 hx
 unfold ruleIx at hr
 have hr1 := List.mem_range.1 (List.mem_filter.1 hr).1
 exact ⟨rfl, rfl, ⟨by show (r : Int) < _; omega, fun q _ _ => ⟨Int.le_refl _, by show (0 : Int) ≤ _; omega⟩⟩, fun s hs => by simp at hs⟩
theorem startL_len (g : Gram) (v : Int) : (startL g v).length ≤ g.rules.length := by
 unfold startL
 split
 ·rw [List.length_map]
  unfold ruleIx
  exact Nat.le_trans (List.length_filter_le _ _) (by rw [List.length_range]; exact Nat.le_refl _)
 ·exact Nat.zero_le _
theorem step_alt {g : Gram} {cl : List (List (Int × Int))} {c d : Cfg} (h : d ∈ stepL g cl c) : d.alt = c.alt := by
 unfold stepL at h
 split at h
 ·simp at h
 split at h
 ·simp at h
 split at h
 ·unfold backL at h
  split at h
  ·rw [List.mem_singleton] at h
   rw [h]
  ·split at h
   ·simp at h
   ·rcases List.mem_append.1 h with h | h
    ·split at h
     ·rw [List.mem_singleton] at h; rw [h]
     ·simp at h
    ·obtain ⟨s, _, rfl⟩ := List.mem_map.1 h
     rfl
 ·split at h
  ·simp at h
  ·split at h
   ·obtain ⟨i, _, rfl⟩ := List.mem_map.1 h
    rfl
   ·simp at h
theorem RchC.alt {g : Gram} {cl : List (List (Int × Int))} {l : List Cfg} {c : Cfg} {P : Int → Prop} (h : RchC g cl l c) (hl : ∀ c ∈ l, P c.alt) : P c.alt := by
 induction h with
 | base h => exact hl _ h
 | step _ k ih => rw [step_alt k]; exact ih
def EndOK (c : Cfg) : Prop := c.rule < 0 → c.rule = -1 ∧ c.dot = 0
theorem step_eok {g : Gram} {cl : List (List (Int × Int))} {c d : Cfg} (hcl : ∀ x ∈ cl, ∀ s ∈ x, VS g s) (h : GC g c) (hd : d ∈ stepL g cl c) : EndOK d := by
 have hvs : ∀ {a : Int} {s : Int × Int} {st : List (Int × Int)}, VS g s → EndOK ⟨a, s.1, s.2, st⟩ := fun {a s st} hs hn => absurd hs.1 (by have : s.1 < 0 := hn; omega)
 unfold stepL at hd
 split at hd
 ·simp at hd
 split at hd
 ·simp at hd
 split at hd
 ·unfold backL at hd
  rcases List.eq_nil_or_concat c.stack with e | ⟨st, s, e⟩
  ·simp only [e, List.getLast?_nil] at hd
   cases hr : g.rules[c.rule.toNat]? with
   | none => simp [hr] at hd
   | some r =>
    simp only [hr] at hd
    rcases List.mem_append.1 hd with hd | hd
    ·split at hd
     ·rw [List.mem_singleton] at hd
      subst hd
      exact fun _ => ⟨rfl, rfl⟩
     ·simp at hd
    ·obtain ⟨s, hs, rfl⟩ := List.mem_map.1 hd
     refine hvs ?_
     by_cases hl : r.left.toNat < cl.length
     ·rw [List.getD_eq_getElem?_getD, List.getElem?_eq_getElem hl] at hs
      exact hcl _ (List.getElem_mem hl) s hs
     ·rw [List.getD_eq_getElem?_getD, List.getElem?_eq_none (by omega)] at hs
      simp at hs
  ·rw [List.concat_eq_append] at e
   simp only [e, List.getLast?_concat] at hd
   rw [List.mem_singleton] at hd
   subst hd
   exact hvs (h.2 s (by rw [e]; simp))
 ·split at hd
  ·simp at hd
  split at hd
  ·obtain ⟨i, hi, rfl⟩ := List.mem_map.1 hd
   exact fun hn => absurd hn (by show ¬ ((i : Nat) : Int) < 0; omega)
  ·simp at hd
theorem RchC.gc' {g : Gram} {cl : List (List (Int × Int))} {l : List Cfg} {c : Cfg} (hcl : ∀ x ∈ cl, ∀ s ∈ x, VS g s) (h : RchC g cl l c) (hl : ∀ c ∈ l, GC g c) : GC g c := by
 induction h with
 | base h => exact hl _ h
 | step _ k ih => exact step_gc hcl ih _ k
theorem RchC.ends {g : Gram} {cl : List (List (Int × Int))} {l : List Cfg} {c : Cfg} (hcl : ∀ x ∈ cl, ∀ s ∈ x, VS g s) (h : RchC g cl l c) (hl : ∀ c ∈ l, GC g c) (he : ∀ c ∈ l, EndOK c) : EndOK c := by
 cases h with
 | base h => exact he _ h
 | step h k => exact step_eok hcl (h.gc' hcl hl) k
end Go.Proofs.YtigijncdfkbaoaaGreatDoor

namespace Go.Proofs.YtigijncdfkbaoaaGreatDoor
open Go.AM
set_option maxRecDepth 100000
structure LI (g : Gram) (H : Heap) (s : SL) : Prop where
 row : RN 4 ccell H s.1 s.2
 xc : ∀ z ∈ s.2, XC H z
 gc : ∀ z ∈ s.2, GC g z.1
 alt : ∀ z ∈ s.2, 0 ≤ z.1.alt ∧ z.1.alt < 48
 len : s.2.length ≤ 65536
 dp : ∀ z ∈ s.2, z.1.stack.length ≤ 65536
 en : ∀ z ∈ s.2, EndOK z.1
theorem sml_rule {g : Gram} {c : Cfg} (hg : GC g c) (he : EndOK c) (hrl : g.rules.length ≤ 48) (hlen : ∀ r ∈ g.rules, r.right.length ≤ 24) : Sml c.rule ∧ Sml c.dot := by
 by_cases h : c.rule < 0
 ·obtain ⟨h1, h2⟩ := he h
  rw [h1, h2]
  exact ⟨⟨by omega, by omega⟩, by omega, by omega⟩
 ·have h1 := hg.1.1
  have hl : c.rule.toNat < g.rules.length := by omega
  obtain ⟨h2, h3⟩ := hg.1.2 _ (by omega) (List.getElem?_eq_getElem hl)
  have h4 := hlen _ (List.getElem_mem hl)
  exact ⟨⟨by omega, by omega⟩, by omega, by omega⟩
theorem sml_c {g : Gram} {c : Cfg} (hg : GC g c) (he : EndOK c) (ha : 0 ≤ c.alt ∧ c.alt < 48) (hd : c.stack.length ≤ 64) (hrl : g.rules.length ≤ 48) (hlen : ∀ r ∈ g.rules, r.right.length ≤ 24) : SmlC c := by
 obtain ⟨h1, h2⟩ := sml_rule hg he hrl hlen
 refine ⟨⟨by omega, by omega⟩, h1, h2, fun s hs => ?_, hd⟩
 obtain ⟨a1, a2, a3, a4⟩ := hg.2 s hs
 have hl : s.1.toNat < g.rules.length := by omega
 have h5 := a4 _ (List.getElem?_eq_getElem hl)
 have h6 := hlen _ (List.getElem_mem hl)
 exact ⟨⟨by omega, by omega⟩, by omega, by omega⟩
def After (pt pv pr : Option Addr) (g : Gram) (nn dp pl st NB bb mp : Nat) (d : DS) (H' : Heap) (d' : DS) : Prop :=
 ∃ yN yR yS, BO pt pv pr g nn dp pl st NB bb mp H' d' yN yR yS ∧ d.sets <+: d'.sets ∧ d.rules <+: d'.rules ∧ d.rows <+: d'.rows
set_option maxHeartbeats 16000000 in
theorem dstate_gives {pt pv pr p pt' pv' pr' : Option Addr} {g : Gram} {nn dp pl st NB bb mp n xN xR xS cc : Nat} {H : Heap} {d : DS} {L : List CA} {cl : List (Option Addr × List (Int × Int))} (hw : WF n H) (hb : BO pt pv pr g nn dp pl st NB bb mp H d xN xR xS) (ne : NE H nn pt' pv' pr' g cc cl) (ok : RightOK g) (hst : st ≤ 256) (hpl : pl ≤ 400) (hdp : dp ≤ 64) (hl : LI g H (p, L)) (hrl : g.rules.length ≤ 48) (hNn : NB ≤ n) :
  GivesX Tryz.prog (fun z => NB ≤ z) 16 [.pointer (some ⟨bb, 0, none⟩), .slice p L.length L.length] n H fun v _ H' => ∃ (b : Bool) (q : Int) (d' : DS), v = .tuple #[.int .i64 q, .bool b] ∧ After pt pv pr g nn dp pl st NB bb mp d H' d' := by
 have hi := ok.inG
 have hgl : g.terms.length ≤ 64 ∧ g.vars.length ≤ 64 := ⟨ok.terms, ok.vars⟩
 have hlen : ∀ r ∈ g.rules, r.right.length ≤ 24 := fun r hr => by
  obtain ⟨i, hi, rfl⟩ := List.getElem_of_mem hr
  exact (ok.rule i hi).len
 have hclV : ∀ x ∈ cl.map (·.2), ∀ s ∈ x, VS g s := fun x hx => by
  obtain ⟨y, hy, rfl⟩ := List.mem_map.1 hx
  exact ne.ok y hy
 refine GivesX.of orders ok16 (Nat.le_of_ble_eq_true rfl) ?_
 have hobj := hb.obj
 repeat (first | refine qqm rfl ?_ | ((first | refine qqr ?_ | refine qqt ?_); simp only [SS, qx19, vun, simprocAttr, hobj, bv3, bv4, bv5, bvl, aop_nc, tnc, ff_16]))
 refine AtCall.by (close_givesT hw ne ok hgl hlen hl.row hl.xc hl.gc (by omega) (by omega) hl.len hl.dp) ?_
 rintro va n1 H1 k1 ⟨b, S, hclo, hres⟩
 have hw1 := k1.wf hw
 have hle1 := k1.le
 have hb1 := hb.kp hw k1
 have stay : ∀ {n2 H2}, Kp n1 H1 n2 H2 → After pt pv pr g nn dp pl st NB bb mp d H2 d := fun k => ⟨xN, xR, xS, hb1.kp hw1 k, List.prefix_rfl, List.prefix_rfl, List.prefix_rfl⟩
 rcases hres with ⟨rfl, rfl⟩ | ⟨rfl, hS, hSm, hSd, hSg, pR, R, hR, rfl, hpR, hxR, hTy⟩
 ·simp only [SS, qx19, vun, simprocAttr, List.toList_toArray, ff_16]
  repeat (first | refine qqm rfl ?_ | ((first | refine qqr ?_ | refine qqt ?_); simp only [SS, qx19, vun, simprocAttr, ff_16]))
  refine WK.retNil ⟨Or.inr rfl, _, rfl, fun z hz _ => k1.keep z hz, false, _, d, rfl, stay (Kp.refl _ _)⟩
 have hfu := hclo.spec.1 rfl
 have hmR : ∀ x ∈ R, x ∈ S := fun x hx => by
  rw [hR, List.mem_filter] at hx
  exact hx.1
 have hRch : ∀ z ∈ R, RchC g (cl.map (·.2)) (L.map (·.1)) z.1 := fun z hz => (hfu.mem z.1).1 (List.mem_map.2 ⟨z, hmR z hz, rfl⟩)
 have hRa : ∀ z ∈ R, 0 ≤ z.1.alt ∧ z.1.alt < 48 := fun z hz => (hRch z hz).alt (P := fun a => 0 ≤ a ∧ a < 48) fun c hc => by
  obtain ⟨y, hy, rfl⟩ := List.mem_map.1 hc
  exact hl.alt y hy
 have hRe : ∀ z ∈ R, EndOK z.1 := fun z hz => (hRch z hz).ends hclV (fun c hc => by
  obtain ⟨y, hy, rfl⟩ := List.mem_map.1 hc
  exact hl.gc y hy) fun c hc => by
  obtain ⟨y, hy, rfl⟩ := List.mem_map.1 hc
  exact hl.en y hy
 have hRs : Srt R := by rw [hR]; exact List.Pairwise.filter _ hS
 have hRl : R.length ≤ 400 := by rw [hR]; exact Nat.le_trans (List.length_filter_le _ _) (by omega)
 have hlo : LO g H1 (pR, R) := ⟨hpR, hTy, hxR, fun z hz => hSg z (hmR z hz), hRa, hRs, hRl, fun z hz => by have := hSd z (hmR z hz); omega⟩
 simp only [SS, qx19, vun, simprocAttr, List.toList_toArray, ff_16]
 repeat (first | refine qqm rfl ?_ | ((first | refine qqr ?_ | refine qqt ?_); simp only [SS, qx19, vun, simprocAttr, ff_16]))
 refine AtCall.by (alts_gives hw1 hpR hRs hRa (by omega)) ?_
 rintro _ n2 H2 k2 ⟨pA, RR, rfl, hRR, hRA⟩
 have hw2 := k2.wf hw1
 have hle2 := k2.le
 have k12 := k1.trans k2
 have hb2 := hb1.kp hw1 k2
 rcases (by omega : RR.length = 0 ∨ RR.length = 1 ∨ 2 ≤ RR.length) with h0 | h1 | h2
 ·have h0' : ((RR.length : Int) = 0) = True := eq_true (by omega)
  simp only [SS, qx19, vun, simprocAttr, ff_16]
  repeat (first | refine qqm rfl ?_ | ((first | refine qqr ?_ | refine qqt ?_); simp only [SS, qx19, vun, simprocAttr, h0', decide_true, ff_16]))
  refine WK.retNil ⟨Or.inr rfl, _, rfl, fun z hz _ => k12.keep z hz, true, _, d, rfl, stay k2⟩
 ·have h0' : ((RR.length : Int) = 0) = False := eq_false (by omega)
  have h1' : ((RR.length : Int) = 1) = True := eq_true (by omega)
  have h01 : 0 < RR.length := by omega
  obtain ⟨z, kz, cs, tz, oz, e0, hz, e⟩ := hRR.at h01
  subst e0
  have ha : 0 ≤ RR[0] ∧ RR[0] < 48 := by
   have := (hRA.2 RR[0]).1 (List.getElem_mem h01)
   rw [List.map_map] at this
   obtain ⟨w, hw, hwa⟩ := List.mem_map.1 this
   rw [← hwa]
   exact hRa w hw
  generalize RR[0] = a at *
  have hadd := dadd_gives (p := none) (L := []) (rule := a) hw2 hb2 hst (LO.nil g H2) ⟨by omega, by omega⟩ (fun z hz => by cases hz) hgl.1 (by omega)
  simp only [SS, qx19, vun, simprocAttr, ff_16]
  rw [Nat.add_zero] at e
  have h01i : ((0 : Int) < (RR.length : Int)) = True := eq_true (by omega)
  repeat (first | refine qqm rfl ?_ | ((first | refine qqr ?_ | refine qqt ?_); simp only [SS, qx19, vun, simprocAttr, h0', h1', h01, h01i, hz, e, decide_true, decide_false, Nat.add_zero, ff_16]))
  refine AtCall.byX hadd ?_
  rintro _ n3 H3 k3 ⟨_, _, b, q, d', yN, yR, yS, rfl, hb3, p1, p2, p3⟩
  simp only [SS, qx19, vun, simprocAttr, List.toList_toArray, ff_16]
  repeat (first | refine qqm rfl ?_ | ((first | refine qqr ?_ | refine qqt ?_); simp only [SS, qx19, vun, simprocAttr, ff_16]))
  refine WK.retNil ⟨Or.inr rfl, _, rfl, fun z hz hX => (k3.keep z (by omega) hX).trans (k12.keep z hz), b, q, d', rfl, yN, yR, yS, hb3, p1, p2, p3⟩
 ·have h0' : ((RR.length : Int) = 0) = False := eq_false (by omega)
  have h1' : ((RR.length : Int) = 1) = False := eq_false (by omega)
  have hadd := dadd_gives (rule := -1) hw2 hb2 hst (hlo.keep (KC.kp hw1 k2) (Kp.spk hw1 k2)) ⟨by omega, by omega⟩ (fun z hz => sml_c (hlo.gc z hz) (hRe z hz) (hRa z hz) (hlo.dp z hz) hrl hlen) hgl.1 (by omega)
  simp only [SS, qx19, vun, simprocAttr, ff_16]
  repeat (first | refine qqm rfl ?_ | ((first | refine qqr ?_ | refine qqt ?_); simp only [SS, qx19, vun, simprocAttr, h0', h1', decide_false, ff_16]))
  refine AtCall.byX hadd ?_
  rintro _ n3 H3 k3 ⟨_, _, b, q, d', yN, yR, yS, rfl, hb3, p1, p2, p3⟩
  simp only [SS, qx19, vun, simprocAttr, List.toList_toArray, ff_16]
  repeat (first | refine qqm rfl ?_ | ((first | refine qqr ?_ | refine qqt ?_); simp only [SS, qx19, vun, simprocAttr, ff_16]))
  refine WK.retNil ⟨Or.inr rfl, _, rfl, fun z hz hX => (k3.keep z (by omega) hX).trans (k12.keep z hz), b, q, d', rfl, yN, yR, yS, hb3, p1, p2, p3⟩
end Go.Proofs.YtigijncdfkbaoaaGreatDoor

namespace Go.Proofs.YtigijncdfkbaoaaGreatDoor
open Go.AM
set_option maxRecDepth 100000
set_option maxHeartbeats 16000000 in
theorem dend_gives {pt pv pr p pt' pv' pr' : Option Addr} {g : Gram} {nn dp pl st NB bb mp n xN xR xS cc : Nat} {H : Heap} {d : DS} {L : List CA} {cl : List (Option Addr × List (Int × Int))} (hw : WF n H) (hb : BO pt pv pr g nn dp pl st NB bb mp H d xN xR xS) (ne : NE H nn pt' pv' pr' g cc cl) (ok : RightOK g) (hst : st ≤ 256) (hl : LO g H (p, L)) (hrl : g.rules.length ≤ 48) (hNn : NB ≤ n) :
  GivesX Tryz.prog (fun z => NB ≤ z) 43 [.pointer (some ⟨bb, 0, none⟩), .slice p L.length L.length] n H fun v _ H' => ∃ (b : Bool) (q : Int) (d' : DS), v = .tuple #[.int .i64 q, .bool b] ∧ After pt pv pr g nn dp pl st NB bb mp d H' d' := by
 have hi := ok.inG
 have hgl : g.terms.length ≤ 64 ∧ g.vars.length ≤ 64 := ⟨ok.terms, ok.vars⟩
 have hlen : ∀ r ∈ g.rules, r.right.length ≤ 24 := fun r hr => by
  obtain ⟨i, hi, rfl⟩ := List.getElem_of_mem hr
  exact (ok.rule i hi).len
 refine GivesX.of orders ok43 (Nat.le_of_ble_eq_true rfl) ?_
 have hobj := hb.obj
 have hbbn := live_lt hw (live_of hobj)
 have hLl : L.length ≤ 400 := hl.len
 have hrow : RN 4 ccell H p L := hl.row
 have v1 : ∀ s, vcells (.agg (ccell s).toArray) = ccell s := fun _ => rfl
 have v2 : ∀ s, (ccell s).all one = true := fun _ => rfl
 have v5 : ∀ s, (ccell s).length = 4 := fun _ => rfl
 have v6 : ∀ s, ((ccell s).drop 0).take 4 = ccell s := fun _ => rfl
 have v7 : ∀ s, (ccell s).take 4 = ccell s := fun _ => rfl
 have hs4 : ∀ (a b c d : Value) (x : CA), AM.splice [a, b, c, d] 0 (ccell x) = ccell x := fun _ _ _ _ _ => rfl
 repeat (first | refine qqm rfl ?_ | ((first | refine qqr ?_ | refine qqt ?_); simp only [SS, qx15, simprocAttr, ff_43]))
 refine WK.loop (fun kk s => ∃ (j y : Nat) (E : List CA), Kp n H s.n s.H ∧ s.f 0 = .pointer (some ⟨bb, 0, none⟩) ∧ s.f 6 = sl y E.length ∧ (E ≠ [] → n ≤ y ∧ y < s.n ∧ s.H y = .cells (E.flatMap ccell) 99 true) ∧ s.f 10 = .slice p L.length L.length ∧ s.f 11 = .int .i64 (L.length : Nat) ∧ s.f 12 = .int .i64 (j : Nat) ∧ j ≤ L.length ∧ E = (L.take j).filter (fun x => decide (nextL g x.1 = -1)) ∧ kk = L.length - j) L.length ?_ ?_
 ·exact ⟨0, 0, [], Kp.refl _ _, rfl, rfl, fun h => absurd rfl h, rfl, rfl, rfl, Nat.zero_le _, rfl, rfl⟩
 rintro kk ⟨f, n1, H1⟩ ⟨j, y, E, k1, f0, f6, hy, f10, f11, f12, hjl, hE, rfl⟩ ih
 simp only at k1 f0 f6 hy f10 f11 f12 ih
 have hw1 := k1.wf hw
 have hle1 := k1.le
 have hEl : E.length ≤ 400 := by rw [hE]; exact Nat.le_trans (List.length_filter_le _ _) (by rw [List.length_take]; omega)
 by_cases hj : j < L.length
 case pos =>
  have hjw : IntKind.i64.wrap ((j : Int) + 1) = ((j + 1 : Nat) : Int) := by rw [wrap_in (by omega) (by omega)]; rfl
  have hmem := List.getElem_mem hj
  have hgc := hl.gc _ hmem
  have htkE : (L.take (j + 1)).filter (fun x => decide (nextL g x.1 = -1)) = E ++ if nextL g L[j].1 = -1 then [L[j]] else [] := by
   rw [List.take_add_one, List.getElem?_eq_getElem hj, List.filter_append, hE]
   by_cases hc : nextL g L[j].1 = -1 <;> simp [hc]
  obtain ⟨u2, k02, cs2, ty2, own2, z1, z2, z3, z4⟩ := (hrow.mono hw k1).at ccell_len hj
  have hobj1 := (k1.keep bb hbbn).trans hobj
  have kn := Kp.new n1 H1 (.cells (ccell L[j]) 99 true)
  have hnn := hset_at H1 n1 (.cells (ccell L[j]) 99 true)
  have mo : ∀ A, hset H1 n1 A bb = _ := fun A => (hset_ne _ _ _ (by omega)).trans hobj1
  repeat (first | refine qqm rfl ?_ | ((first | refine qqr ?_ | refine qqt ?_); simp only [SS, qx15, simprocAttr, f0, f10, f11, f12, hj, z1, z2, z3, z4, mo, bv3, bvl, aop_nc, tnc, v1, v2, v5, v6, hs4, hset_at, ff_43]))
  generalize hset H1 n1 (.cells (ccell L[j]) 99 true) = H2 at *
  have hw2 := kn.wf hw1
  refine AtCall.by (next_gives hw (k1.trans kn) ne hi hgl hlen hgc.1.1 (fun r h0 hr => hgc.1.2 r h0 hr)) ?_
  rintro _ n3 H3 k3 rfl
  have hw3 := k3.wf hw2
  have hle3 := k3.le
  have hnn3 := (k3.keep n1 (Nat.lt_succ_self _)).trans hnn
  have k13 := k1.trans (kn.trans k3)
  by_cases hn1 : nextL g L[j].1 = -1
  ·rw [if_pos hn1] at htkE
   have hn1' : (nextL g L[j].1 = -1) = True := eq_true hn1
   by_cases hE0 : E = []
   ·have f6' : f 6 = .slice none 0 0 := by rw [f6, hE0]; rfl
    simp only [SS, qx15, simprocAttr, hn1', decide_true, ff_43]
    repeat (first | refine qqm rfl ?_ | ((first | refine qqr ?_ | refine qqt ?_); simp only [SS, qx15, simprocAttr, f6', f12, hnn3, v1, v2, v5, v6, v7, hs4, hjw, hset_at, Nat.le_refl, List.drop_zero, ff_43]))
    refine ih (L.length - (j + 1)) (by omega) _ ?_
    refine ⟨j + 1, n3 + 1, [L[j]], (k13.trans (Kp.new n3 H3 _)).trans (Kp.new (n3 + 1) _ _), f0, rfl, fun _ => ⟨by omega, Nat.lt_succ_self _, ?_⟩, f10, f11, rfl, hj, ?_, rfl⟩
    ·rw [List.flatMap_singleton]; exact hset_at _ _ _
    ·rw [htkE, hE0]; rfl
   ·obtain ⟨hy0, hyn, hyc⟩ := hy hE0
    have hE1 : E.length ≠ 0 := fun e => hE0 (List.eq_nil_of_length_eq_zero e)
    have hsl := sl_pos (y := y) hE1
    have hyc3 := ((kn.trans k3).keep y hyn).trans hyc
    have m1 : ∀ A, hset H3 n3 A y = _ := fun A => (hset_ne _ _ _ (by omega)).trans hyc3
    have bl : E.length + 1 ≤ bigN := by unfold bigN; omega
    have hct : [n3].contains y = false := by simp; omega
    have hfl : (E.flatMap ccell).length = E.length * 4 := fm_len ccell_len _
    have htk : (E.flatMap ccell).take (E.length * 4) = E.flatMap ccell := List.take_of_length_le (by omega)
    have kB : ∀ A C, Kp n H (n3 + 1 + 1) (hset (hset (hset H3 n3 A) y .dead) (n3 + 1) C) := fun A C => ((k13.trans (Kp.new n3 H3 A)).set (x := y) .dead hy0 (by omega)).trans (Kp.new (n3 + 1) _ C)
    simp only [SS, qx15, simprocAttr, hn1', decide_true, ff_43]
    repeat (first | refine qqm rfl ?_ | ((first | refine qqr ?_ | refine qqt ?_); simp only [SS, qx15, simprocAttr, f6, f12, hsl, hnn3, v1, v2, v5, v6, v7, hs4, hjw, m1, hyc3, bl, hct, hfl, htk, hset_at, Nat.le_refl, List.drop_zero, ff_43]))
    refine ih (L.length - (j + 1)) (by omega) _ ?_
    refine ⟨j + 1, n3 + 1, E ++ [L[j]], kB _ _, f0, ?_, fun _ => ⟨by omega, Nat.lt_succ_self _, ?_⟩, f10, f11, rfl, hj, htkE.symm, rfl⟩
    ·rw [List.length_append, List.length_singleton, sl_pos (by omega)]; rfl
    ·rw [List.flatMap_append, List.flatMap_singleton]; exact hset_at _ _ _
  ·rw [if_neg hn1, List.append_nil] at htkE
   have hn1' : (nextL g L[j].1 = -1) = False := eq_false hn1
   simp only [SS, qx15, simprocAttr, hn1', decide_false, ff_43]
   repeat (first | refine qqm rfl ?_ | ((first | refine qqr ?_ | refine qqt ?_); simp only [SS, qx15, simprocAttr, f12, hjw, ff_43]))
   refine ih (L.length - (j + 1)) (by omega) _ ?_
   exact ⟨j + 1, y, E, k13, f0, f6, fun h => ⟨(hy h).1, by have := (hy h).2.1; show _ < n3; omega, ((kn.trans k3).keep y (hy h).2.1).trans (hy h).2.2⟩, f10, f11, rfl, hj, htkE.symm, rfl⟩
 obtain rfl : j = L.length := by omega
 rw [List.take_length] at hE
 clear ih
 have hEm : ∀ z ∈ E, z ∈ L := fun z hz => by rw [hE, List.mem_filter] at hz; exact hz.1
 have hEs : Srt E := by rw [hE]; exact List.Pairwise.filter _ hl.srt
 have hEa : ∀ z ∈ E, 0 ≤ z.1.alt ∧ z.1.alt < 48 := fun z hz => hl.alt z (hEm z hz)
 have hEr : RN 4 ccell H1 (slp y E.length) E := by
  by_cases hE0 : E = []
  ·subst hE0; exact .inl ⟨rfl, rfl⟩
  ·obtain ⟨_, _, hyc⟩ := hy hE0
   rw [slp_pos (fun e => hE0 (List.eq_nil_of_length_eq_zero e))]
   exact .inr ⟨y, 0, _, _, true, rfl, hyc, by rw [fm_len ccell_len]; omega, by rw [List.drop_zero]; exact List.take_of_length_le (by rw [fm_len ccell_len]; omega)⟩
 rw [sl_eq] at f6
 repeat (first | refine qqm rfl ?_ | ((first | refine qqr ?_ | refine qqt ?_); simp only [SS, qx15, simprocAttr, f6, f10, f11, f12, hj, ff_43]))
 refine AtCall.by (alts_gives hw1 hEr hEs hEa (by omega)) ?_
 rintro _ n2 H2 k2 ⟨pA, RR, rfl, hRR, hRA⟩
 have hw2 := k2.wf hw1
 have hle2 := k2.le
 have k12 := k1.trans k2
 have hb2 := hb.kp hw k12
 rcases (by omega : RR.length = 0 ∨ RR.length = 1 ∨ 2 ≤ RR.length) with h0 | h1 | h2
 ·have h0' : ((RR.length : Int) = 0) = True := eq_true (by omega)
  simp only [SS, qx15, simprocAttr, ff_43]
  repeat (first | refine qqm rfl ?_ | ((first | refine qqr ?_ | refine qqt ?_); simp only [SS, qx15, simprocAttr, h0', decide_true, ff_43]))
  refine WK.retNil ⟨Or.inr rfl, _, rfl, fun z hz _ => k12.keep z hz, true, _, d, rfl, xN, xR, xS, hb2, List.prefix_rfl, List.prefix_rfl, List.prefix_rfl⟩
 ·have h0' : ((RR.length : Int) = 0) = False := eq_false (by omega)
  have h1' : ((RR.length : Int) = 1) = True := eq_true (by omega)
  have h01 : 0 < RR.length := by omega
  have h01i : ((0 : Int) < (RR.length : Int)) = True := eq_true (by omega)
  obtain ⟨z, kz, cs, tz, oz, e0, hz, e⟩ := hRR.at h01
  subst e0
  have ha : 0 ≤ RR[0] ∧ RR[0] < 48 := by
   have := (hRA.2 RR[0]).1 (List.getElem_mem h01)
   rw [List.map_map] at this
   obtain ⟨w, hw, hwa⟩ := List.mem_map.1 this
   rw [← hwa]
   exact hEa w hw
  generalize RR[0] = a at *
  rw [Nat.add_zero] at e
  have hadd := dadd_gives (p := none) (L := []) (rule := a) hw2 hb2 hst (LO.nil g H2) ⟨by omega, by omega⟩ (fun z hz => by cases hz) hgl.1 (by omega)
  simp only [SS, qx15, simprocAttr, ff_43]
  repeat (first | refine qqm rfl ?_ | ((first | refine qqr ?_ | refine qqt ?_); simp only [SS, qx15, simprocAttr, f0, h0', h1', h01, h01i, hz, e, decide_true, decide_false, ff_43]))
  refine AtCall.byX hadd ?_
  rintro _ n3 H3 k3 ⟨_, _, b, q, d', yN, yR, yS, rfl, hb3, p1, p2, p3⟩
  simp only [SS, qx15, simprocAttr, List.toList_toArray, ff_43]
  repeat (first | refine qqm rfl ?_ | ((first | refine qqr ?_ | refine qqt ?_); simp only [SS, qx15, simprocAttr, ff_43]))
  refine WK.retNil ⟨Or.inr rfl, _, rfl, fun z hz hX => (k3.keep z (by omega) hX).trans (k12.keep z hz), b, q, d', rfl, yN, yR, yS, hb3, p1, p2, p3⟩
 ·have h0' : ((RR.length : Int) = 0) = False := eq_false (by omega)
  have h1' : ((RR.length : Int) = 1) = False := eq_false (by omega)
  simp only [SS, qx15, simprocAttr, ff_43]
  repeat (first | refine qqm rfl ?_ | ((first | refine qqr ?_ | refine qqt ?_); simp only [SS, qx15, simprocAttr, h0', h1', decide_false, ff_43]))
  refine WK.retNil ⟨Or.inr rfl, _, rfl, fun z hz _ => k12.keep z hz, false, _, d, rfl, xN, xR, xS, hb2, List.prefix_rfl, List.prefix_rfl, List.prefix_rfl⟩
end Go.Proofs.YtigijncdfkbaoaaGreatDoor
