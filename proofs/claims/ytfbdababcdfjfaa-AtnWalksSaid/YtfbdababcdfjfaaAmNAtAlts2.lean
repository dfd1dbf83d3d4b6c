/- A part of a proof. Its conditions: none. -/
import Derived.Test.YtfbdababcdfjfaaAmNInsC
import Derived.Test.YtfbdababcdfjfaaAmNAtMv2
set_option linter.all false
namespace Go.Proofs.Ytfbdababcdfjfaa
open Go.AM
set_option maxRecDepth 100000
set_option maxHeartbeats 4000000 in
theorem index_gives {n : Nat} {H : Heap} {p : Option Addr} {R : List Int} {a : Int} (hw : WF n H) (hR : RA (Value.int .i64) H p R) (hl : R.length ≤ 65536) :
  Gives Try.prog 73 [.slice p R.length R.length, .int .i64 a] n H fun v n' H' => ∃ z : Int, v = .int .i64 z ∧ (0 ≤ z ↔ a ∈ R) ∧ n' = n ∧ H' = H := by
 refine Gives.of orders ok73 (Nat.le_of_ble_eq_true rfl) ?_
 repeat (first | refine qqm rfl ?_ | ((first | refine qqr ?_ | refine qqt ?_); simp only [SS, qx14, simprocAttr, ff_73]))
 refine WK.loop (fun kk s => ∃ i : Nat, s.n = n ∧ s.H = H ∧ s.f 0 = .slice p R.length R.length ∧ s.f 1 = .int .i64 a ∧ s.f 7 = .int .i64 (R.length : Nat) ∧ s.f 8 = .int .i64 (i : Nat) ∧ i ≤ R.length ∧ a ∉ R.take i ∧ kk = R.length - i) R.length ?_ ?_
 ·exact ⟨0, rfl, rfl, rfl, rfl, rfl, rfl, Nat.zero_le _, by simp, rfl⟩
 rintro kk ⟨f, n1, H1⟩ ⟨i, e1, e2, f0, f1, f7, f8, hil, hni, rfl⟩ ih
 simp only at e1 e2 f0 f1 f7 f8 ih
 subst e1 e2
 by_cases hlt : i < R.length
 ·have hiw : IntKind.i64.wrap ((i : Int) + 1) = ((i + 1 : Nat) : Int) := by rw [wrap_in (by omega) (by omega)]; rfl
  obtain ⟨z, kz, ds, tz, oz, e0, hz, e⟩ := hR.at hlt
  subst e0
  by_cases he : a = R[i]
  ·have he' : (a = R[i]) = True := eq_true he
   repeat (first | refine qqm rfl ?_ | ((first | refine qqr ?_ | refine qqt ?_); simp only [SS, qx14, simprocAttr, f0, f1, f7, f8, hlt, hz, e, he', decide_true, ff_73]))
   first | refine qqf ?_ ?_ | refine qqg ?_ ?_
   ·exact fun _ _ => rfl
   ·simp only [packed, qv, Nat.reduceEqDiff, ↓reduceIte, ff_73]
    exact ⟨_, rfl, ⟨fun _ => by rw [he]; exact List.getElem_mem hlt, fun _ => by omega⟩, trivial, trivial⟩
  ·repeat (first | refine qqm rfl ?_ | ((first | refine qqr ?_ | refine qqt ?_); simp only [SS, qx14, simprocAttr, f0, f1, f7, f8, hlt, hz, e, he, decide_false, hiw, ff_73]))
   refine ih (R.length - (i + 1)) (by omega) _ ?_
   refine ⟨i + 1, rfl, rfl, f0, f1, f7, rfl, hlt, ?_, rfl⟩
   rw [List.take_add_one, List.getElem?_eq_getElem hlt, List.mem_append]
   rintro (h | h)
   ·exact hni h
   ·simp at h; exact he h
 ·obtain rfl : i = R.length := by omega
  rw [List.take_length] at hni
  repeat (first | refine qqm rfl ?_ | ((first | refine qqr ?_ | refine qqt ?_); simp only [SS, qx14, simprocAttr, f7, f8, hlt, ff_73]))
  first | refine qqf ?_ ?_ | refine qqg ?_ ?_
  ·exact fun _ _ => rfl
  ·simp only [packed, qv, Nat.reduceEqDiff, ↓reduceIte, ff_73]
   exact ⟨_, rfl, ⟨fun h => absurd h (by decide), fun h => absurd h hni⟩, trivial, trivial⟩
theorem contains_gives {n : Nat} {H : Heap} {p : Option Addr} {R : List Int} {a : Int} (hw : WF n H) (hR : RA (Value.int .i64) H p R) (hl : R.length ≤ 65536) :
  Gives Try.prog 45 [.slice p R.length R.length, .int .i64 a] n H fun v n' H' => v = .bool (decide (a ∈ R)) ∧ n' = n ∧ H' = H := by
 refine Gives.of orders ok45 (Nat.le_of_ble_eq_true rfl) ?_
 repeat (first | refine qqm rfl ?_ | ((first | refine qqr ?_ | refine qqt ?_); simp only [SS, qx12, simprocAttr]))
 refine AtCall.by (index_gives hw hR hl) ?_
 rintro v n1 H1 k1 ⟨z, rfl, hz, hn1, hH⟩
 subst hn1
 obtain rfl := hH.symm
 have hz' : (0 ≤ z) = (a ∈ R) := propext hz
 simp only [SS, qx12, simprocAttr]
 repeat (first | refine qqm rfl ?_ | ((first | refine qqr ?_ | refine qqt ?_); simp only [SS, qx12, simprocAttr]))
 first | refine qqf ?_ ?_ | refine qqg ?_ ?_
 ·exact fun _ _ => rfl
 ·simp only [packed, qv, Nat.reduceEqDiff, ↓reduceIte, hz']
  exact ⟨trivial, trivial, trivial⟩
theorem rise_len {N : Int} : ∀ (l : List Int) (a : Int), l.Pairwise (· < ·) → (∀ x ∈ l, a ≤ x ∧ x < N) → (l.length : Int) ≤ N - a ∨ l = []
 | [], _, _, _ => .inr rfl
 | x :: l, a, hp, h => by
  obtain ⟨h1, h2⟩ := List.pairwise_cons.1 hp
  have hx := h x (List.mem_cons_self ..)
  rcases rise_len l (x + 1) h2 (fun z hz => ⟨by have := h1 z hz; omega, (h z (List.mem_cons_of_mem _ hz)).2⟩) with h3 | h3
  ·left; rw [List.length_cons]; omega
  ·left; rw [h3]; simp; omega
theorem rise_eq : ∀ {l m : List Int}, l.Pairwise (· < ·) → m.Pairwise (· < ·) → (∀ a, a ∈ l ↔ a ∈ m) → l = m
 | [], [], _, _, _ => rfl
 | [], b :: m, _, _, h => absurd ((h b).2 (List.mem_cons_self ..)) (by simp)
 | a :: l, [], _, _, h => absurd ((h a).1 (List.mem_cons_self ..)) (by simp)
 | a :: l, b :: m, hl, hm, h => by
  obtain ⟨l1, l2⟩ := List.pairwise_cons.1 hl
  obtain ⟨m1, m2⟩ := List.pairwise_cons.1 hm
  have hab : a = b := by
   rcases List.mem_cons.1 ((h a).1 (List.mem_cons_self ..)) with e | e
   ·exact e
   ·rcases List.mem_cons.1 ((h b).2 (List.mem_cons_self ..)) with e' | e'
    ·exact e'.symm
    ·have := m1 a e; have := l1 b e'; omega
  subst hab
  rw [rise_eq l2 m2 fun c => ?_]
  constructor
  ·intro hc
   rcases List.mem_cons.1 ((h c).1 (List.mem_cons_of_mem _ hc)) with e | e
   ·have := l1 c hc; omega
   ·exact e
  ·intro hc
   rcases List.mem_cons.1 ((h c).2 (List.mem_cons_of_mem _ hc)) with e | e
   ·have := m1 c hc; omega
   ·exact e
theorem cmpC_alt {a b : Cfg} (h : cmpC a b < 0) : a.alt ≤ b.alt := by
 rw [cmpC_X] at h
 split at h
 ·omega
 ·unfold cmpI at h
  split at h
  ·omega
  ·split at h <;> omega
def AltsL (l : List Cfg) (R : List Int) : Prop := R.Pairwise (· < ·) ∧ ∀ a, a ∈ R ↔ a ∈ l.map (·.alt)
set_option maxHeartbeats 8000000 in
theorem alts_gives {n : Nat} {H : Heap} {p : Option Addr} {L : List CA} (hw : WF n H) (hL : RN 4 ccell H p L) (hs : Srt L) (hal : ∀ x ∈ L, 0 ≤ x.1.alt ∧ x.1.alt < 48) (hl : L.length ≤ 65536) :
    Gives Try.prog 16 [.slice p L.length L.length] n H fun v _ H' => ∃ p' R, v = .slice p' R.length R.length ∧ RA (Value.int .i64) H' p' R ∧ AltsL (L.map (·.1)) R := by
  refine Gives.of orders ok16 (Nat.le_of_ble_eq_true rfl) ?_
  have v1 : ∀ s, vcells (.agg (ccell s).toArray) = ccell s := fun _ => rfl
  have v2 : ∀ s, (ccell s).all one = true := fun _ => rfl
  have v0 : ∀ s, (ccell s)[0]? = some (.int .i64 s.1.alt) := fun _ => rfl
  have v5 : ∀ s, (ccell s).length = 4 := fun _ => rfl
  have v6 : ∀ s, ((ccell s).drop 0).take 4 = ccell s := fun _ => rfl
  have hs4 : ∀ (a b c d : Value) (x : CA), AM.splice [a, b, c, d] 0 (ccell x) = ccell x := fun _ _ _ _ _ => rfl
  repeat (first | refine qqm rfl ?_ | ((first | refine qqr ?_ | refine qqt ?_); simp only [SS, qx18, vun, simprocAttr, ff_16]))
  refine WK.loop (fun kk s => ∃ (i y : Nat) (R : List Int), Kp n H s.n s.H ∧ s.f 6 = .slice p L.length L.length ∧ s.f 7 = .int .i64 (L.length : Nat) ∧ s.f 8 = .int .i64 (i : Nat) ∧ s.f 3 = sl y R.length ∧ (R ≠ [] → n ≤ y ∧ y < s.n ∧ s.H y = .cells (R.map (Value.int .i64)) 3 true) ∧ i ≤ L.length ∧ R.length ≤ i ∧ AltsL ((L.take i).map (·.1)) R ∧ kk = L.length - i) L.length ?_ ?_
  · exact ⟨0, 0, [], Kp.refl _ _, rfl, rfl, rfl, rfl, fun h => absurd rfl h, Nat.zero_le _, Nat.zero_le _, ⟨List.Pairwise.nil, by simp⟩, rfl⟩
  rintro kk ⟨f, n5, H5⟩ ⟨i, y, R, k5, f6, f7, f8, f3, hy, hil, hRl, hR, rfl⟩ ih
  simp only at k5 f6 f7 f8 f3 hy ih
  have hle5 := k5.le
  have hw5 := k5.wf hw
  have hRA : RA (Value.int .i64) H5 (slp y R.length) R := by
    by_cases h0 : R = []
    · subst h0; exact fun h => absurd rfl h
    · obtain ⟨_, _, hyc⟩ := hy h0
      have h1 : 0 < R.length := List.length_pos_iff.2 h0
      rw [slp_pos (by omega)]
      exact fun _ => ⟨y, 0, _, _, true, rfl, hyc, fun i a e => by rw [Nat.zero_add, List.getElem?_map, e]; rfl⟩
  by_cases hlt : i < L.length
  · have hiw : IntKind.i64.wrap ((i : Int) + 1) = ((i + 1 : Nat) : Int) := by rw [wrap_in (by omega) (by omega)]; rfl
    obtain ⟨u, k0, cs, ty, own, q1, q2, q3, q4⟩ := (hL.mono hw k5).at ccell_len hlt
    subst q1
    have hun := live_lt hw5 (live_of q2)
    have kn := Kp.new n5 H5 (.cells (ccell L[i]) 47 true)
    have k5n := k5.trans kn
    have f3' := f3
    rw [sl_eq] at f3'
    have htk : (L.take (i + 1)).map (·.1) = (L.take i).map (·.1) ++ [L[i].1] := by
      rw [List.take_add_one, List.getElem?_eq_getElem hlt, List.map_append]; rfl
    repeat (first | refine qqm rfl ?_ | ((first | refine qqr ?_ | refine qqt ?_); simp only [SS, qx18, vun, simprocAttr, f3', f6, f7, f8, hlt, q2, q3, q4, v0, v1, v2, v5, v6, hs4, hset_at, ff_16]))
    have hnn := hset_at H5 n5 (.cells (ccell L[i]) 47 true)
    generalize hset H5 n5 (.cells (ccell L[i]) 47 true) = H6 at *
    refine AtCall.by (contains_gives (kn.wf hw5) (hRA.mono hw5 kn) (by omega)) ?_
    rintro v n7 H7 k7 ⟨rfl, hn7, hH7⟩
    subst hn7
    obtain rfl := hH7.symm
    by_cases hin : L[i].1.alt ∈ R
    · simp only [SS, qx18, vun, simprocAttr, hin, decide_true, Bool.not_true, ff_16]
      repeat (first | refine qqm rfl ?_ | ((first | refine qqr ?_ | refine qqt ?_); simp only [SS, qx18, vun, simprocAttr, f8, hiw, ff_16]))
      refine ih (L.length - (i + 1)) (by omega) _ ?_
      refine ⟨i + 1, y, R, k5n, f6, f7, rfl, f3, fun h => ⟨(hy h).1, by have := (hy h).2.1; show _ < n5 + 1; omega, (kn.keep y (hy h).2.1).trans (hy h).2.2⟩, hlt, by omega, ⟨hR.1, fun a => ?_⟩, rfl⟩
      rw [hR.2, htk, List.map_append, List.mem_append]
      constructor
      · exact .inl
      · rintro (h | h)
        · exact h
        · simp at h; rw [h]; exact (hR.2 _).1 hin
    · have hR' : AltsL ((L.take (i + 1)).map (·.1)) (R ++ [L[i].1.alt]) := by
        refine ⟨?_, fun a => ?_⟩
        · rw [List.pairwise_append]
          refine ⟨hR.1, List.pairwise_singleton _ _, fun r hr b hb => ?_⟩
          rw [List.mem_singleton] at hb
          rw [hb]
          have hr' := (hR.2 r).1 hr
          rw [List.map_map] at hr'
          obtain ⟨z, hz, rfl⟩ := List.mem_map.1 hr'
          obtain ⟨j, hj, rfl⟩ := List.getElem_of_mem hz
          rw [List.length_take] at hj
          have hle := cmpC_alt (hs.lt hlt (by omega : j < i))
          have e : (L.take i)[j]'(by rw [List.length_take]; omega) = L[j]'(by omega) := List.getElem_take
          have hne : ((L.take i)[j]'(by rw [List.length_take]; omega)).1.alt ≠ L[i].1.alt := fun e' => hin (by rw [← e']; exact hr)
          simp only [Function.comp]
          rw [e] at hne ⊢
          omega
        · rw [htk, List.map_append, List.mem_append, List.mem_append, hR.2]
          simp
      have hz : L[i].1 = L[i].1 := rfl
      generalize L[i] = z at *
      by_cases hR0 : R = []
      · subst hR0
        have hsl0 : slp y ([] : List Int).length = none := rfl
        simp only [SS, qx18, vun, simprocAttr, hin, decide_false, Bool.not_false, ff_16]
        repeat (first | refine qqm rfl ?_ | ((first | refine qqr ?_ | refine qqt ?_); simp only [SS, qx18, vun, simprocAttr, f3, f8, hnn, v0, v5, hiw, hsl0, ff_16]))
        have k6p : ∀ A C, Kp (n5 + 1) H6 (n5 + 1 + 1 + 1) (hset (hset H6 (n5 + 1) A) (n5 + 1 + 1) C) := fun A C => (Kp.new (n5 + 1) H6 A).trans (Kp.new (n5 + 1 + 1) _ C)
        refine ih (L.length - (i + 1)) (by omega) _ ?_
        exact ⟨i + 1, n5 + 1 + 1, [z.1.alt], k5n.trans (k6p _ _), f6, f7, rfl, rfl, fun _ => ⟨by omega, Nat.lt_succ_self _, hset_at _ _ _⟩, hlt, by simp, hR', rfl⟩
      · obtain ⟨hy0, hyn, hyc⟩ := hy hR0
        have hR1 : 0 < R.length := List.length_pos_iff.2 hR0
        rw [sl_pos (by omega)] at f3
        have hyc6 := (kn.keep y hyn).trans hyc
        have hy7 : ∀ o, hset H6 (n5 + 1) o y = _ := fun o => (hset_ne _ _ _ (by omega)).trans hyc6
        have bl : R.length + 1 ≤ bigN := by unfold bigN; omega
        have hct : [n5 + 1].contains y = false := by simp; omega
        have hfl : (R.map (Value.int .i64)).length = R.length := List.length_map _
        have htk2 : (R.map (Value.int .i64)).take R.length = R.map (Value.int .i64) := List.take_of_length_le (by omega)
        simp only [SS, qx18, vun, simprocAttr, hin, decide_false, Bool.not_false, ff_16]
        repeat (first | refine qqm rfl ?_ | ((first | refine qqr ?_ | refine qqt ?_); simp only [SS, qx18, vun, simprocAttr, f3, f8, hnn, v0, v5, hiw, hy7, bl, hct, hfl, htk2, hset_at, Nat.le_refl, List.drop_zero, Nat.mul_one, ff_16]))
        have k6x : ∀ A C, Kx (fun z => z = y) (n5 + 1) H6 (n5 + 1 + 1 + 1) (hset (hset (hset H6 (n5 + 1) A) y .dead) (n5 + 1 + 1) C) := fun A C => (((Kp.new (n5 + 1) H6 A).kx (X := fun z => z = y)).set (x := y) .dead (.inl rfl) (by omega)).trans (Kp.new (n5 + 1 + 1) _ C).kx
        refine ih (L.length - (i + 1)) (by omega) _ ?_
        have k6y := k6x (.cells [.int .i64 z.1.alt] 3 true) (.cells (R.map (Value.int .i64) ++ [.int .i64 z.1.alt]) 3 true)
        refine ⟨i + 1, n5 + 1 + 1, R ++ [z.1.alt], ⟨by show n ≤ n5 + 1 + 1 + 1; omega, fun q hq => (k6y.keep q (by omega) (by omega)).trans (k5n.keep q hq), fun h => k6y.wf (k5n.wf h)⟩, f6, f7, rfl, ?_, fun _ => ⟨by omega, Nat.lt_succ_self _, ?_⟩, hlt, by simp; omega, hR', rfl⟩
        · rw [List.length_append, List.length_singleton, sl_pos (by omega)]; rfl
        · rw [List.map_append]; exact hset_at _ _ _
  · obtain rfl : i = L.length := by omega
    rw [List.take_length] at hR
    repeat (first | refine qqm rfl ?_ | ((first | refine qqr ?_ | refine qqt ?_); simp only [SS, qx18, vun, simprocAttr, f3, f6, f7, f8, hlt, ff_16]))
    have hsort : le2 R := hR.1.imp fun h => Int.le_of_lt h
    by_cases hR0 : R = []
    · subst hR0
      refine AtCall.by (sort0_gives _ _) ?_
      rintro v n6 H6 k6 ⟨hn6, hH6⟩
      subst hn6
      obtain rfl := hH6.symm
      simp only [SS, qx18, vun, simprocAttr, ff_16]
      repeat (first | refine qqm rfl ?_ | ((first | refine qqr ?_ | refine qqt ?_); simp only [SS, qx18, vun, simprocAttr, f3, ff_16]))
      first | refine qqf ?_ ?_ | refine qqg ?_ ?_
      · exact k5.keep
      · simp only [packed, qv, Nat.reduceEqDiff, ↓reduceIte, ff_16]
        exact ⟨none, [], rfl, fun h => absurd rfl h, hR⟩
    · obtain ⟨hy0, hyn, hyc⟩ := hy hR0
      have hR1 : 0 < R.length := List.length_pos_iff.2 hR0
      have hsl0 : sl y R.length = .slice (some ⟨y, 0, none⟩) R.length R.length := sl_pos (by omega)
      have hend : ∀ J : Heap, J y = .cells (R.map (Value.int .i64)) 3 true → RA (Value.int .i64) J (some ⟨y, 0, none⟩) R := fun J hJ _ => ⟨y, 0, _, _, true, rfl, hJ, fun i a e => by rw [Nat.zero_add, List.getElem?_map, e]; rfl⟩
      rw [hsl0] at f3 ⊢
      by_cases h12 : R.length ≤ 12
      · refine AtCall.byX (sort_gives hyc hyn h12) ?_
        rintro v n6 H6 k6 ⟨hn6, hne6, l', hl', hperm, hle⟩
        obtain rfl : l' = R := sorted_eq hperm hle hsort
        simp only [SS, qx18, vun, simprocAttr, ff_16]
        repeat (first | refine qqm rfl ?_ | ((first | refine qqr ?_ | refine qqt ?_); simp only [SS, qx18, vun, simprocAttr, f3, ff_16]))
        first | refine qqf ?_ ?_ | refine qqg ?_ ?_
        · exact fun q hq => (k6.keep q (by omega) (by omega)).trans (k5.keep q hq)
        · simp only [packed, qv, Nat.reduceEqDiff, ↓reduceIte, ff_16]
          exact ⟨some ⟨y, 0, none⟩, _, rfl, hend _ hl', hR⟩
      · have hlen : R.length < 50 := by
          rcases rise_len (N := 48) R 0 hR.1 (fun a ha => by
            have := (hR.2 a).1 ha
            rw [List.map_map] at this
            obtain ⟨z, hz, rfl⟩ := List.mem_map.1 this
            exact hal z hz) with h | h
          · omega
          · exact absurd h hR0
        refine AtCall.by (sortS_gives hw5 hyc (by omega) hlen hsort) ?_
        rintro v n6 H6 k6 _
        simp only [SS, qx18, vun, simprocAttr, ff_16]
        repeat (first | refine qqm rfl ?_ | ((first | refine qqr ?_ | refine qqt ?_); simp only [SS, qx18, vun, simprocAttr, f3, ff_16]))
        first | refine qqf ?_ ?_ | refine qqg ?_ ?_
        · exact (k5.trans k6).keep
        · simp only [packed, qv, Nat.reduceEqDiff, ↓reduceIte, ff_16]
          exact ⟨some ⟨y, 0, none⟩, _, rfl, hend _ ((k6.keep y hyn).trans hyc), hR⟩
end Go.Proofs.Ytfbdababcdfjfaa

namespace Go.Proofs.Ytfbdababcdfjfaa
open Go.AM
set_option maxRecDepth 100000
theorem alt_at {cs : List Value} {k : Nat} {x : CA} (h : (cs.drop k).take 4 = ccell x) : cs[k]? = some (.int .i64 x.1.alt) := by
 have h1 : ((cs.drop k).take 4)[0]? = (ccell x)[0]? := by rw [h]
 rw [List.getElem?_take, List.getElem?_drop] at h1
 simpa [ccell] using h1
theorem rise_ins {R : List Int} {a : Int} {at_ : Nat} (h : R.Pairwise (· < ·)) (hal : at_ ≤ R.length) (hlo : ∀ q (h : q < R.length), q < at_ → R[q] < a) (hhi : ∀ q (h : q < R.length), at_ ≤ q → a < R[q]) : (R.take at_ ++ [a] ++ R.drop at_).Pairwise (· < ·) := by
 have hT : ∀ x ∈ R.take at_, x < a := fun x hx => by
  obtain ⟨q, hq, rfl⟩ := List.getElem_of_mem hx
  rw [List.length_take] at hq
  rw [List.getElem_take]
  exact hlo q (by omega) (by omega)
 have hD : ∀ x ∈ R.drop at_, a < x := fun x hx => by
  obtain ⟨q, hq, rfl⟩ := List.getElem_of_mem hx
  rw [List.length_drop] at hq
  rw [List.getElem_drop]
  exact hhi _ (by omega) (by omega)
 rw [List.append_assoc, List.pairwise_append]
 refine ⟨h.sublist (List.take_sublist _ _), ?_, fun x hx y hy => ?_⟩
 ·rw [List.singleton_append, List.pairwise_cons]
  exact ⟨hD, h.sublist (List.drop_sublist _ _)⟩
 ·rw [List.singleton_append, List.mem_cons] at hy
  rcases hy with rfl | hy
  ·exact hT x hx
  ·exact Int.lt_trans (hT x hx) (hD y hy)
set_option maxHeartbeats 16000000 in
theorem alts14_gives {n : Nat} {H : Heap} {p : Option Addr} {L : List CA} (hw : WF n H) (hL : RN 4 ccell H p L) (hl : L.length ≤ 65536) :
    Gives Try.prog 17 [.slice p L.length L.length] n H fun v _ H' => ∃ p' R, v = .slice p' R.length R.length ∧ RA (Value.int .i64) H' p' R ∧ AltsL (L.map (·.1)) R ∧ R.length ≤ L.length := by
  refine Gives.of orders ok17 (Nat.le_of_ble_eq_true rfl) ?_
  repeat (first | apply WK.seq | apply WK.block | apply WK.skipSeq | apply WK.skipBlock | apply WK.retSeq | apply WK.retBlock | apply WK.exitSeq | apply WK.exitHere | refine WK.exitOn rfl ?_)
  (refine WK.rgn ?_ ?_; kernel_rfl; simp (config := { maxSteps := 1000000 }) only [SS, qx20, forall_const, tap, tap2, tap3, tap4, tsrc, tsrc2, Int.reduceEq, Int.reduceNeg, Nat.reduceGT, Nat.reduceLT, Nat.reduceLeDiff, Nat.reduceEqDiff, ↓reduceIte, reduceCtorEq, Int.reduceToNat, Int.reduceLE, Int.reduceLT, Nat.reduceAdd, Nat.reduceMul, ff_17])
  repeat (first | apply WK.seq | apply WK.block | apply WK.skipSeq | apply WK.skipBlock | apply WK.retSeq | apply WK.retBlock | apply WK.exitSeq | apply WK.exitHere | refine WK.exitOn rfl ?_)
  (refine WK.rgn ?_ ?_; kernel_rfl; simp (config := { maxSteps := 1000000 }) only [SS, qx20, forall_const, tap, tap2, tap3, tap4, tsrc, tsrc2, Int.reduceEq, Int.reduceNeg, Nat.reduceGT, Nat.reduceLT, Nat.reduceLeDiff, Nat.reduceEqDiff, ↓reduceIte, reduceCtorEq, Int.reduceToNat, Int.reduceLE, Int.reduceLT, Nat.reduceAdd, Nat.reduceMul, ff_17])
  have k1 := Kp.new n H (.cells [] 3 true)
  have hO := hset_at H n (.cells [] 3 true)
  generalize hset H n (.cells [] 3 true) = H1 at *
  repeat (first | apply WK.seq | apply WK.block | apply WK.skipSeq | apply WK.skipBlock | apply WK.retSeq | apply WK.retBlock | apply WK.exitSeq | apply WK.exitHere | refine WK.exitOn rfl ?_ | ((first | (refine WK.rgn ?_ ?_; kernel_rfl) | refine AtCall.now ?_); simp (config := { maxSteps := 1000000 }) only [SS, qx20, forall_const, tap, tap2, tap3, tap4, tsrc, tsrc2, Int.reduceEq, Int.reduceNeg, Nat.reduceGT, Nat.reduceLT, Nat.reduceLeDiff, Nat.reduceEqDiff, ↓reduceIte, reduceCtorEq, Int.reduceToNat, Int.reduceLE, Int.reduceLT, Nat.reduceAdd, Nat.reduceMul, ff_17]) | (refine WK.condT ?_ ?_; focus (simp only [ev_tmp, ev_const, fset_apply, Nat.reduceEqDiff, ↓reduceIte, decide_true, decide_false, ff_17]; done)) | (refine WK.condF ?_ ?_; focus (simp only [ev_tmp, ev_const, fset_apply, Nat.reduceEqDiff, ↓reduceIte, decide_true, decide_false, ff_17]; done)))
  refine WK.loop (fun kk s => ∃ (i y : Nat) (R : List Int), Kp n H s.n s.H ∧ n ≤ y ∧ y < s.n ∧ s.H y = .cells (R.map (Value.int .i64)) 3 true ∧ s.f 0 = .slice p L.length L.length ∧ s.f 3 = lv y R ∧ s.f 4 = .int .i64 (i : Nat) ∧ i ≤ L.length ∧ R.length ≤ i ∧ AltsL ((L.take i).map (·.1)) R ∧ kk = L.length - i) L.length ?_ ?_
  · exact ⟨0, n, [], k1, Nat.le_refl _, Nat.lt_succ_self _, hO, rfl, rfl, rfl, Nat.zero_le _, Nat.zero_le _, ⟨List.Pairwise.nil, by simp⟩, rfl⟩
  rintro kk ⟨f, n5, H5⟩ ⟨i, y, R, k5, hy0, hyn, hy, f0, f3, f4, hil, hRl, hR, rfl⟩ ih
  simp only at k5 hyn hy f0 f3 f4 ih
  have hle5 := k5.le
  have hw5 := k5.wf hw
  by_cases hlt : i < L.length
  · have hiw : IntKind.i64.wrap ((i : Int) + 1) = ((i + 1 : Nat) : Int) := by rw [wrap_in (by omega) (by omega)]; rfl
    obtain ⟨u, k0, cs, ty, own, q1, q2, q3, q4⟩ := (hL.mono hw k5).at ccell_len hlt
    subst q1
    have hun := live_lt hw5 (live_of q2)
    have hal := alt_at q3
    have htk : (L.take (i + 1)).map (·.1) = (L.take i).map (·.1) ++ [L[i].1] := by
      rw [List.take_add_one, List.getElem?_eq_getElem hlt, List.map_append]; rfl
    have hRm : (R.map (Value.int .i64)).length = R.length := List.length_map _
    generalize hz : L[i] = z at *
    repeat (first | apply WK.seq | apply WK.block | apply WK.skipSeq | apply WK.skipBlock | apply WK.retSeq | apply WK.retBlock | apply WK.exitSeq | apply WK.exitHere | refine WK.exitOn rfl ?_ | ((first | (refine WK.rgn ?_ ?_; kernel_rfl) | refine AtCall.now ?_); simp (config := { maxSteps := 1000000 }) only [SS, qx20, forall_const, tap, tap2, tap3, tap4, tsrc, tsrc2, Int.reduceEq, Int.reduceNeg, Nat.reduceGT, Nat.reduceLT, Nat.reduceLeDiff, Nat.reduceEqDiff, ↓reduceIte, reduceCtorEq, Int.reduceToNat, Int.reduceLE, Int.reduceLT, Nat.reduceAdd, Nat.reduceMul, f0, f4, hlt, ff_17]) | (refine WK.condT ?_ ?_; focus (simp only [ev_tmp, ev_const, fset_apply, Nat.reduceEqDiff, ↓reduceIte, decide_true, decide_false, f0, f4, hlt, ff_17]; done)) | (refine WK.condF ?_ ?_; focus (simp only [ev_tmp, ev_const, fset_apply, Nat.reduceEqDiff, ↓reduceIte, decide_true, decide_false, f0, f4, hlt, ff_17]; done)))
    refine WK.cutBlk (fun s => ∃ a : Nat, s.n = n5 ∧ s.H = H5 ∧ s.f 0 = .slice (some ⟨u, k0, none⟩) L.length L.length ∧ s.f 3 = lv y R ∧ s.f 4 = .int .i64 (i : Nat) ∧ s.f 5 = .int .i64 (a : Nat) ∧ a ≤ R.length ∧ (∀ q (h : q < R.length), q < a → R[q] < z.1.alt) ∧ (∀ h : a < R.length, z.1.alt ≤ R[a])) ?_ ?_
    · refine WK.loop (fun kk s => ∃ a : Nat, s.n = n5 ∧ s.H = H5 ∧ s.f 0 = .slice (some ⟨u, k0, none⟩) L.length L.length ∧ s.f 3 = lv y R ∧ s.f 4 = .int .i64 (i : Nat) ∧ s.f 5 = .int .i64 (a : Nat) ∧ a ≤ R.length ∧ (∀ q (h : q < R.length), q < a → R[q] < z.1.alt) ∧ kk = R.length - a) R.length ?_ ?_
      · exact ⟨0, rfl, rfl, f0, f3, f4, rfl, Nat.zero_le _, fun q h h' => by omega, rfl⟩
      clear f0 f3 f4 ih
      rintro kk ⟨f, n6, H6⟩ ⟨a, e1, e2, f0, f3, f4, f5, hal', hlo, hkk⟩ ih2
      simp only at e1 e2 f0 f3 f4 f5 ih2
      subst e1
      subst e2
      by_cases ha : a < R.length
      · have haw : IntKind.i64.wrap ((a : Int) + 1) = ((a + 1 : Nat) : Int) := by rw [wrap_in (by omega) (by omega)]; rfl
        have hra := int_at ha
        by_cases hless : R[a] < z.1.alt
        · have hless' : (R[a] < z.1.alt) = True := eq_true hless
          repeat (first | apply WK.seq | apply WK.block | apply WK.skipSeq | apply WK.skipBlock | apply WK.retSeq | apply WK.retBlock | apply WK.exitSeq | apply WK.exitHere | refine WK.exitOn rfl ?_ | ((first | (refine WK.rgn ?_ ?_; kernel_rfl) | refine AtCall.now ?_); simp (config := { maxSteps := 1000000 }) only [SS, qx20, forall_const, tap, tap2, tap3, tap4, tsrc, tsrc2, Int.reduceEq, Int.reduceNeg, Nat.reduceGT, Nat.reduceLT, Nat.reduceLeDiff, Nat.reduceEqDiff, ↓reduceIte, reduceCtorEq, Int.reduceToNat, Int.reduceLE, Int.reduceLT, Nat.reduceAdd, Nat.reduceMul, f0, f3, f4, f5, ha, hlt, hy, hRm, hra, q2, hal, hless', decide_true, haw, Nat.zero_add, Nat.mul_one, ff_17]) | (refine WK.condT ?_ ?_; focus (simp only [ev_tmp, ev_const, fset_apply, Nat.reduceEqDiff, ↓reduceIte, decide_true, decide_false, f0, f3, f4, f5, ha, hlt, hy, hRm, hra, q2, hal, hless', decide_true, haw, Nat.zero_add, Nat.mul_one, ff_17]; done)) | (refine WK.condF ?_ ?_; focus (simp only [ev_tmp, ev_const, fset_apply, Nat.reduceEqDiff, ↓reduceIte, decide_true, decide_false, f0, f3, f4, f5, ha, hlt, hy, hRm, hra, q2, hal, hless', decide_true, haw, Nat.zero_add, Nat.mul_one, ff_17]; done)))
          refine ih2 (R.length - (a + 1)) (by omega) _ ?_
          refine ⟨a + 1, rfl, rfl, f0, f3, f4, rfl, ha, fun q h h' => ?_, rfl⟩
          by_cases hq : q = a
          · subst hq; exact hless
          · exact hlo q h (by omega)
        · have hless' : (R[a] < z.1.alt) = False := eq_false hless
          repeat (first | apply WK.seq | apply WK.block | apply WK.skipSeq | apply WK.skipBlock | apply WK.retSeq | apply WK.retBlock | apply WK.exitSeq | apply WK.exitHere | refine WK.exitOn rfl ?_ | ((first | (refine WK.rgn ?_ ?_; kernel_rfl) | refine AtCall.now ?_); simp (config := { maxSteps := 1000000 }) only [SS, qx20, forall_const, tap, tap2, tap3, tap4, tsrc, tsrc2, Int.reduceEq, Int.reduceNeg, Nat.reduceGT, Nat.reduceLT, Nat.reduceLeDiff, Nat.reduceEqDiff, ↓reduceIte, reduceCtorEq, Int.reduceToNat, Int.reduceLE, Int.reduceLT, Nat.reduceAdd, Nat.reduceMul, f0, f3, f4, f5, ha, hlt, hy, hRm, hra, q2, hal, hless', decide_true, decide_false, Nat.zero_add, Nat.mul_one, ff_17]) | (refine WK.condT ?_ ?_; focus (simp only [ev_tmp, ev_const, fset_apply, Nat.reduceEqDiff, ↓reduceIte, decide_true, decide_false, f0, f3, f4, f5, ha, hlt, hy, hRm, hra, q2, hal, hless', decide_true, decide_false, Nat.zero_add, Nat.mul_one, ff_17]; done)) | (refine WK.condF ?_ ?_; focus (simp only [ev_tmp, ev_const, fset_apply, Nat.reduceEqDiff, ↓reduceIte, decide_true, decide_false, f0, f3, f4, f5, ha, hlt, hy, hRm, hra, q2, hal, hless', decide_true, decide_false, Nat.zero_add, Nat.mul_one, ff_17]; done)))
          exact WK.skipNil ⟨rfl, a, rfl, rfl, f0, f3, f4, f5, hal', hlo, fun _ => by omega⟩
      · repeat (first | apply WK.seq | apply WK.block | apply WK.skipSeq | apply WK.skipBlock | apply WK.retSeq | apply WK.retBlock | apply WK.exitSeq | apply WK.exitHere | refine WK.exitOn rfl ?_ | ((first | (refine WK.rgn ?_ ?_; kernel_rfl) | refine AtCall.now ?_); simp (config := { maxSteps := 1000000 }) only [SS, qx20, forall_const, tap, tap2, tap3, tap4, tsrc, tsrc2, Int.reduceEq, Int.reduceNeg, Nat.reduceGT, Nat.reduceLT, Nat.reduceLeDiff, Nat.reduceEqDiff, ↓reduceIte, reduceCtorEq, Int.reduceToNat, Int.reduceLE, Int.reduceLT, Nat.reduceAdd, Nat.reduceMul, f0, f3, f4, f5, ha, decide_false, ff_17]) | (refine WK.condT ?_ ?_; focus (simp only [ev_tmp, ev_const, fset_apply, Nat.reduceEqDiff, ↓reduceIte, decide_true, decide_false, f0, f3, f4, f5, ha, decide_false, ff_17]; done)) | (refine WK.condF ?_ ?_; focus (simp only [ev_tmp, ev_const, fset_apply, Nat.reduceEqDiff, ↓reduceIte, decide_true, decide_false, f0, f3, f4, f5, ha, decide_false, ff_17]; done)))
        exact WK.skipNil ⟨rfl, a, rfl, rfl, f0, f3, f4, f5, hal', hlo, fun h => absurd h ha⟩
    clear f0 f3 f4
    rintro ⟨f, n6, H6⟩ ⟨a, e1, e2, f0, f3, f4, f5, hal', hlo, hhi⟩
    simp only at e1 e2 f0 f3 f4 f5
    subst e1
    subst e2
    by_cases hput : ∃ h : a < R.length, R[a] = z.1.alt
    · obtain ⟨ha, he⟩ := hput
      have hra := int_at ha
      have hane : ((a : Int) = (R.length : Int)) = False := eq_false (by omega)
      have he' : (R[a] = z.1.alt) = True := eq_true he
      repeat (first | apply WK.seq | apply WK.block | apply WK.skipSeq | apply WK.skipBlock | apply WK.retSeq | apply WK.retBlock | apply WK.exitSeq | apply WK.exitHere | refine WK.exitOn rfl ?_ | ((first | (refine WK.rgn ?_ ?_; kernel_rfl) | refine AtCall.now ?_); simp (config := { maxSteps := 1000000 }) only [SS, qx20, forall_const, tap, tap2, tap3, tap4, tsrc, tsrc2, Int.reduceEq, Int.reduceNeg, Nat.reduceGT, Nat.reduceLT, Nat.reduceLeDiff, Nat.reduceEqDiff, ↓reduceIte, reduceCtorEq, Int.reduceToNat, Int.reduceLE, Int.reduceLT, Nat.reduceAdd, Nat.reduceMul, f0, f3, f4, f5, ha, hane, hlt, hy, hRm, hra, q2, hal, he', decide_true, decide_false, Bool.not_true, hiw, Nat.zero_add, Nat.mul_one, ff_17]) | (refine WK.condT ?_ ?_; focus (simp only [ev_tmp, ev_const, fset_apply, Nat.reduceEqDiff, ↓reduceIte, decide_true, decide_false, f0, f3, f4, f5, ha, hane, hlt, hy, hRm, hra, q2, hal, he', decide_true, decide_false, Bool.not_true, hiw, Nat.zero_add, Nat.mul_one, ff_17]; done)) | (refine WK.condF ?_ ?_; focus (simp only [ev_tmp, ev_const, fset_apply, Nat.reduceEqDiff, ↓reduceIte, decide_true, decide_false, f0, f3, f4, f5, ha, hane, hlt, hy, hRm, hra, q2, hal, he', decide_true, decide_false, Bool.not_true, hiw, Nat.zero_add, Nat.mul_one, ff_17]; done)))
      refine ih (L.length - (i + 1)) (by omega) _ ?_
      refine ⟨i + 1, y, R, k5, hy0, hyn, hy, f0, f3, rfl, hlt, by omega, ⟨hR.1, fun b => ?_⟩, rfl⟩
      rw [hR.2, htk, List.map_append, List.mem_append]
      constructor
      · exact .inl
      · rintro (h | h)
        · exact h
        · simp at h; rw [h, ← he]; exact (hR.2 _).1 (List.getElem_mem ha)
    · have hhi' : ∀ q (h : q < R.length), a ≤ q → z.1.alt < R[q] := fun q h h' => by
        have h1 := hhi (by omega)
        have h2 : R[a]'(by omega) ≠ z.1.alt := fun e => hput ⟨by omega, e⟩
        by_cases hq : q = a
        · subst hq; omega
        · have := List.pairwise_iff_getElem.1 hR.1 a q (by omega) h (by omega); omega
      have hR' : AltsL ((L.take (i + 1)).map (·.1)) (R.take a ++ [z.1.alt] ++ R.drop a) := by
        refine ⟨rise_ins hR.1 hal' hlo hhi', fun b => ?_⟩
        have e : b ∈ R.take a ++ [z.1.alt] ++ R.drop a ↔ b ∈ R ∨ b = z.1.alt := by
          rw [List.mem_append, List.mem_append, List.mem_singleton]
          conv => rhs; rw [← List.take_append_drop a R, List.mem_append]
          constructor
          · rintro ((h | h) | h)
            · exact .inl (.inl h)
            · exact .inr h
            · exact .inl (.inr h)
          · rintro ((h | h) | h)
            · exact .inl (.inl h)
            · exact .inr h
            · exact .inl (.inr h)
        rw [e, htk, List.map_append, List.mem_append, ← hR.2]
        simp
      have q5 : ∀ o, hset H6 n6 o y = _ := fun o => (hset_ne _ _ _ (by omega)).trans hy
      have hb5 : a + (R.length - a) ≤ R.length := by omega
      have bl5 : R.length - a ≤ bigN := by unfold bigN; omega
      have hct5 : [y].contains n6 = false := by simp; omega
      have ft2 : (R.map (Value.int .i64)).drop a = (R.drop a).map (Value.int .i64) := List.map_drop.symm
      have ft1 : (R.map (Value.int .i64)).take a = (R.take a).map (Value.int .i64) := List.map_take.symm
      have ft3 : ((R.drop a).map (Value.int .i64)).take (R.length - a) = (R.drop a).map (Value.int .i64) := List.take_of_length_le (by rw [List.length_map, List.length_drop]; omega)
      have hcond : ((a : Int) = (R.length : Int)) ∨ ∃ h : a < R.length, ¬ R[a] = z.1.alt := by
        by_cases ha : a < R.length
        · exact .inr ⟨ha, fun e => hput ⟨ha, e⟩⟩
        · exact .inl (by omega)
      repeat (first | apply WK.seq | apply WK.block | apply WK.skipSeq | apply WK.skipBlock | apply WK.retSeq | apply WK.retBlock | apply WK.exitSeq | apply WK.exitHere | refine WK.exitOn rfl ?_)
      refine WK.cut (fun s => s.n = n6 ∧ s.H = H6 ∧ s.f 0 = .slice (some ⟨u, k0, none⟩) L.length L.length ∧ s.f 3 = lv y R ∧ s.f 4 = .int .i64 (i : Nat) ∧ s.f 5 = .int .i64 (a : Nat) ∧ s.f 47 = .bool true) ?_ ?_
      · rcases hcond with he | ⟨ha, he⟩
        · have he' : ((a : Int) = (R.length : Int)) = True := eq_true he
          (refine WK.rgn ?_ ?_; kernel_rfl; simp (config := { maxSteps := 1000000 }) only [SS, qx20, forall_const, tap, tap2, tap3, tap4, tsrc, tsrc2, Int.reduceEq, Int.reduceNeg, Nat.reduceGT, Nat.reduceLT, Nat.reduceLeDiff, Nat.reduceEqDiff, ↓reduceIte, reduceCtorEq, Int.reduceToNat, Int.reduceLE, Int.reduceLT, Nat.reduceAdd, Nat.reduceMul, f0, f3, f4, f5, he', decide_true, ff_17])
          exact WK.skipNil ⟨rfl, rfl, rfl, f0, f3, f4, f5, rfl⟩
        · have hra := int_at ha
          have hane : ((a : Int) = (R.length : Int)) = False := eq_false (by omega)
          have he' : (R[a] = z.1.alt) = False := eq_false he
          (refine WK.rgn ?_ ?_; kernel_rfl; simp (config := { maxSteps := 1000000 }) only [SS, qx20, forall_const, tap, tap2, tap3, tap4, tsrc, tsrc2, Int.reduceEq, Int.reduceNeg, Nat.reduceGT, Nat.reduceLT, Nat.reduceLeDiff, Nat.reduceEqDiff, ↓reduceIte, reduceCtorEq, Int.reduceToNat, Int.reduceLE, Int.reduceLT, Nat.reduceAdd, Nat.reduceMul, f0, f3, f4, f5, ha, hane, hlt, hy, hRm, hra, q2, hal, he', decide_true, decide_false, Bool.not_false, Nat.zero_add, Nat.mul_one, ff_17])
          exact WK.skipNil ⟨rfl, rfl, rfl, f0, f3, f4, f5, rfl⟩
      clear f0 f3 f4 f5
      rintro ⟨f, n7, H7⟩ ⟨e1, e2, f0, f3, f4, f5, f47⟩
      simp only at e1 e2 f0 f3 f4 f5 f47
      subst e1
      subst e2
      repeat (first | apply WK.seq | apply WK.block | apply WK.skipSeq | apply WK.skipBlock | apply WK.retSeq | apply WK.retBlock | apply WK.exitSeq | apply WK.exitHere | refine WK.exitOn rfl ?_)
      first | (refine WK.condT ?_ ?_; focus (simp only [ev_tmp, ev_const, fset_apply, Nat.reduceEqDiff, ↓reduceIte, decide_true, decide_false, f47]; done)) | (refine WK.condF ?_ ?_; focus (simp only [ev_tmp, ev_const, fset_apply, Nat.reduceEqDiff, ↓reduceIte, decide_true, decide_false, f47]; done))
      apply WK.seq
      (refine WK.rgn ?_ ?_; kernel_rfl; simp (config := { maxSteps := 1000000 }) only [SS, qx20, forall_const, tap, tap2, tap3, tap4, tsrc, tsrc2, Int.reduceEq, Int.reduceNeg, Nat.reduceGT, Nat.reduceLT, Nat.reduceLeDiff, Nat.reduceEqDiff, ↓reduceIte, reduceCtorEq, Int.reduceToNat, Int.reduceLE, Int.reduceLT, Nat.reduceAdd, Nat.reduceMul, f3, f5, hy, q5, hal', hRm, hb5, bl5, hct5, ft2, ft3, isz_3, hset_at, Nat.le_refl, implies_true, Nat.zero_mul, Nat.mul_one, Nat.add_zero, Nat.zero_add, Nat.sub_zero, Nat.zero_le, ff_17])
      have k9 : Kp n7 H7 (n7 + 1 + 1) (hset (hset H7 n7 .dead) (n7 + 1) (.cells (List.take 0 (List.drop 0 []) ++ (R.drop a).map (Value.int .i64)) 3 true)) := (Kp.new n7 H7 .dead).trans (Kp.new (n7 + 1) _ _)
      have hr9 : (hset (hset H7 n7 .dead) (n7 + 1) (.cells (List.take 0 (List.drop 0 []) ++ (R.drop a).map (Value.int .i64)) 3 true)) (n7 + 1) = .cells ((R.drop a).map (Value.int .i64)) 3 true := hset_at _ _ _
      generalize (hset (hset H7 n7 .dead) (n7 + 1) (.cells (List.take 0 (List.drop 0 []) ++ (R.drop a).map (Value.int .i64)) 3 true)) = H9 at *
      have hyo9 := (k9.keep y (by omega)).trans hy
      have hu9 := (k9.keep u (by omega)).trans q2
      have hfd : ((R.drop a).map (Value.int .i64)).length = R.length - a := by rw [List.length_map, List.length_drop]
      have hft : ((R.take a).map (Value.int .i64)).length = a := by rw [List.length_map, List.length_take, Nat.min_eq_left hal']
      have m1 : ∀ o, hset H9 (n7 + 1 + 1) o y = _ := fun o => (hset_ne _ _ _ (by omega)).trans hyo9
      have m2 : ∀ o o' o'', hset (hset (hset H9 (n7 + 1 + 1) o) y o') (n7 + 1 + 1 + 1) o'' (n7 + 1) = _ := fun o o' o'' => (hset_ne _ _ _ (by omega)).trans ((hset_ne _ _ _ (by omega)).trans ((hset_ne _ _ _ (by omega)).trans hr9))
      have c1 : [n7 + 1 + 1].contains y = false := by simp; omega
      have c2 : [n7 + 1].contains (n7 + 1 + 1 + 1) = false := by simp; omega
      have b1 : a + 1 ≤ bigN := by unfold bigN; omega
      have b2 : a + 1 + (R.length - a) ≤ bigN := by unfold bigN; omega
      have w1 : [Value.int .i64 z.1.alt].take 1 = [Value.int .i64 z.1.alt] := rfl
      have e1 : ((R.take a).map (Value.int .i64) ++ [Value.int .i64 z.1.alt]).length = a + 1 := by rw [List.length_append, hft]; rfl
      have e2 : ((R.take a).map (Value.int .i64) ++ [Value.int .i64 z.1.alt]).take (a + 1) = (R.take a).map (Value.int .i64) ++ [Value.int .i64 z.1.alt] := List.take_of_length_le (by omega)
      have e3 : ((R.drop a).map (Value.int .i64)).take (R.length - a) = (R.drop a).map (Value.int .i64) := List.take_of_length_le (by omega)
      repeat (first | apply WK.seq | apply WK.block | apply WK.skipSeq | apply WK.skipBlock | apply WK.retSeq | apply WK.retBlock | apply WK.exitSeq | apply WK.exitHere | refine WK.exitOn rfl ?_)
      (refine WK.rgn ?_ ?_; kernel_rfl; simp (config := { maxSteps := 1000000 }) only [SS, qx20, forall_const, tap, tap2, tap3, tap4, tsrc, tsrc2, Int.reduceEq, Int.reduceNeg, Nat.reduceGT, Nat.reduceLT, Nat.reduceLeDiff, Nat.reduceEqDiff, ↓reduceIte, reduceCtorEq, Int.reduceToNat, Int.reduceLE, Int.reduceLT, Nat.reduceAdd, Nat.reduceMul, f0, f3, f4, f5, hlt, hyo9, hu9, hal, hr9, m1, m2, c1, c2, b1, b2, w1, e1, e2, e3, hal', hRm, hfd, hft, ft1, isz_3, hset_at, Nat.le_refl, implies_true, List.drop_zero, Nat.zero_mul, Nat.mul_one, Nat.add_zero, Nat.zero_add, Nat.sub_zero, Nat.zero_le, ff_17])
      have hR2 : (R.take a ++ [z.1.alt] ++ R.drop a).length = a + 1 + (R.length - a) := by simp; omega
      have k10 : ∀ X C, Kx (fun z => z = y) n7 H7 (n7 + 1 + 1 + 1 + 1 + 1) (hset (hset (hset (hset H9 (n7 + 1 + 1) X) y .dead) (n7 + 1 + 1 + 1) .dead) (n7 + 1 + 1 + 1 + 1) C) := fun X C => ((((k9.trans (Kp.new (n7 + 1 + 1) H9 X)).kx (X := fun z => z = y)).set (x := y) .dead (.inl rfl) (by omega)).trans (Kp.new (n7 + 1 + 1 + 1) _ .dead).kx).trans (Kp.new (n7 + 1 + 1 + 1 + 1) _ C).kx
      have k10' := k10 (.cells [.int .i64 z.1.alt] 3 true) (.cells ((R.take a).map (Value.int .i64) ++ [.int .i64 z.1.alt] ++ (R.drop a).map (Value.int .i64)) 3 true)
      repeat (first | apply WK.seq | apply WK.block | apply WK.skipSeq | apply WK.skipBlock | apply WK.retSeq | apply WK.retBlock | apply WK.exitSeq | apply WK.exitHere | refine WK.exitOn rfl ?_ | ((first | (refine WK.rgn ?_ ?_; kernel_rfl) | refine AtCall.now ?_); simp (config := { maxSteps := 1000000 }) only [SS, qx20, forall_const, tap, tap2, tap3, tap4, tsrc, tsrc2, Int.reduceEq, Int.reduceNeg, Nat.reduceGT, Nat.reduceLT, Nat.reduceLeDiff, Nat.reduceEqDiff, ↓reduceIte, reduceCtorEq, Int.reduceToNat, Int.reduceLE, Int.reduceLT, Nat.reduceAdd, Nat.reduceMul, f4, hiw, ff_17]) | (refine WK.condT ?_ ?_; focus (simp only [ev_tmp, ev_const, fset_apply, Nat.reduceEqDiff, ↓reduceIte, decide_true, decide_false, f4, hiw, ff_17]; done)) | (refine WK.condF ?_ ?_; focus (simp only [ev_tmp, ev_const, fset_apply, Nat.reduceEqDiff, ↓reduceIte, decide_true, decide_false, f4, hiw, ff_17]; done)))
      refine ih (L.length - (i + 1)) (by omega) _ ?_
      refine ⟨i + 1, n7 + 1 + 1 + 1 + 1, R.take a ++ [z.1.alt] ++ R.drop a, ⟨by show n ≤ n7 + 1 + 1 + 1 + 1 + 1; omega, fun q hq => (k10'.keep q (by omega) (by omega)).trans (k5.keep q hq), fun h => k10'.wf (k5.wf h)⟩, by omega, Nat.lt_succ_self _, ?_, f0, ?_, rfl, hlt, by rw [hR2]; omega, hR', rfl⟩
      · rw [List.map_append, List.map_append]; exact hset_at _ _ _
      · show Value.slice _ _ _ = lv _ _
        unfold lv
        rw [hR2]
  · obtain rfl : i = L.length := by omega
    rw [List.take_length] at hR
    repeat (first | apply WK.seq | apply WK.block | apply WK.skipSeq | apply WK.skipBlock | apply WK.retSeq | apply WK.retBlock | apply WK.exitSeq | apply WK.exitHere | refine WK.exitOn rfl ?_ | ((first | (refine WK.rgn ?_ ?_; kernel_rfl) | refine AtCall.now ?_); simp (config := { maxSteps := 1000000 }) only [SS, qx20, forall_const, tap, tap2, tap3, tap4, tsrc, tsrc2, Int.reduceEq, Int.reduceNeg, Nat.reduceGT, Nat.reduceLT, Nat.reduceLeDiff, Nat.reduceEqDiff, ↓reduceIte, reduceCtorEq, Int.reduceToNat, Int.reduceLE, Int.reduceLT, Nat.reduceAdd, Nat.reduceMul, f0, f3, f4, hlt, ff_17]) | (refine WK.condT ?_ ?_; focus (simp only [ev_tmp, ev_const, fset_apply, Nat.reduceEqDiff, ↓reduceIte, decide_true, decide_false, f0, f3, f4, hlt, ff_17]; done)) | (refine WK.condF ?_ ?_; focus (simp only [ev_tmp, ev_const, fset_apply, Nat.reduceEqDiff, ↓reduceIte, decide_true, decide_false, f0, f3, f4, hlt, ff_17]; done)))
    (first | refine WK.retNil ⟨Or.inr rfl, _, rfl, ?_, ?_⟩ | refine WK.skipNil ⟨Or.inl rfl, _, rfl, ?_, ?_⟩)
    · exact k5.keep
    · simp only [packed, fset_apply, Nat.reduceEqDiff, ↓reduceIte, List.getD_cons_zero, List.getD_cons_succ, ff_17]
      exact ⟨some ⟨y, 0, none⟩, R, rfl, fun _ => ⟨y, 0, _, _, true, rfl, hy, fun i a e => by rw [Nat.zero_add, List.getElem?_map, e]; rfl⟩, hR, hRl⟩
end Go.Proofs.Ytfbdababcdfjfaa
