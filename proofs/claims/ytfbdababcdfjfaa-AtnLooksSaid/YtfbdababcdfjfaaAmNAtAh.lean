/- A part of a proof. Its conditions: none. -/
import Derived.Test.YtfbdababcdfjfaaAmNAtSet
set_option linter.all false
namespace Go.Proofs.Ytfbdababcdfjfaa
open Go.AM
set_option maxRecDepth 100000
set_option maxHeartbeats 8000000 in
theorem cut02_gives {n k : Nat} {H : Heap} {a : Option Addr} {u : List Int} (hw : WF n H) (ha : RS (Value.int .i64) H a u) (hl : u.length ≤ 65536) (hk : k ≤ 65536) :
  Gives Try.prog 110 [.slice a u.length u.length, .int .i64 (k : Nat)] n H fun v _ H' => ∃ p', v = .slice p' (u.take k).length (u.take k).length ∧ RS (Value.int .i64) H' p' (u.take k) := by
 refine Gives.of orders ok110 (Nat.le_of_ble_eq_true rfl) ?_
 repeat refine qqn rfl ?_
 (refine qqr ?_; simp only [SS, qx10, simprocAttr, ff_110])
 repeat refine qqn rfl ?_
 (refine qqr ?_; simp only [SS, qx10, simprocAttr, ff_110])
 have kO := Kp.new n H (.cells [] 3 true)
 have hO := hset_at H n (.cells [] 3 true)
 generalize hset H n (.cells [] 3 true) = H2 at *
 repeat (first | refine qqm rfl ?_ | ((first | refine qqr ?_ | refine qqt ?_); simp only [SS, qx10, simprocAttr, ff_110]))
 refine WK.loop (fun kk s => ∃ (i y : Nat), Kp n H s.n s.H ∧ n ≤ y ∧ y < s.n ∧ s.H y = .cells ((u.take i).map (Value.int .i64)) 3 true ∧ s.f 0 = .slice a u.length u.length ∧ s.f 1 = .int .i64 (k : Nat) ∧ s.f 5 = .slice (some ⟨y, 0, none⟩) i i ∧ s.f 6 = .int .i64 (i : Nat) ∧ i ≤ u.length ∧ i ≤ k ∧ kk = u.length - i) u.length ?_ ?_
 ·exact ⟨0, n, kO, Nat.le_refl _, Nat.lt_succ_self _, hO, rfl, rfl, rfl, rfl, Nat.zero_le _, Nat.zero_le _, rfl⟩
 rintro kk ⟨f, n3, H3⟩ ⟨i, y, k3, hy0, hyn, hy, f0, f1, f5, f6, hil, hik, rfl⟩ ih
 simp only at k3 hyn hy f0 f1 f5 f6 ih
 have hw3 := k3.wf hw
 have hle3 := k3.le
 have hfl : ((u.take i).map (Value.int .i64)).length = i := by rw [List.length_map, List.length_take]; omega
 by_cases hlt : i < u.length
 ·by_cases hlk : i < k
  ·have hiw : IntKind.i64.wrap ((i : Int) + 1) = ((i + 1 : Nat) : Int) := by rw [wrap_in (by omega) (by omega)]; rfl
   obtain ⟨z, kz, cs, tz, oz, e0, hz, e⟩ := (ha.mono hw k3).ra.at hlt
   subst e0
   have hzn := live_lt hw3 (live_of hz)
   have htk : ((u.take i).map (Value.int .i64)).take i = (u.take i).map (Value.int .i64) := List.take_of_length_le (by omega)
   have bl : i + 1 ≤ bigN := by unfold bigN; omega
   have my : ∀ A, hset H3 n3 A y = .cells ((u.take i).map (Value.int .i64)) 3 true := fun A => (hset_ne _ _ _ (by omega)).trans hy
   have c2 : [n3].contains y = false := by simp; omega
   have k35 : ∀ A C, Kx (fun z => z = y) n3 H3 (n3 + 1 + 1) (hset (hset (hset H3 n3 A) y .dead) (n3 + 1) C) := fun A C => (((Kp.new n3 H3 A).kx (X := fun z => z = y)).set (x := y) .dead (.inl rfl) (by omega)).trans (Kp.new (n3 + 1) _ C).kx
   repeat (first | refine qqm rfl ?_ | ((first | refine qqr ?_ | refine qqt ?_); simp only [SS, qx10, simprocAttr, f0, f1, f5, f6, hlt, hlk, hz, e, hiw, my, c2, bl, hfl, htk, decide_true, hset_at, Nat.le_refl, List.drop_zero, Nat.mul_one, ff_110]))
   refine ih (u.length - (i + 1)) (by omega) _ ?_
   refine ⟨i + 1, n3 + 1, ⟨by show n ≤ n3 + 1 + 1; omega, fun q hq => ((k35 _ _).keep q (by omega) (by omega)).trans (k3.keep q hq), fun h => (k35 _ _).wf (k3.wf h)⟩, by omega, Nat.lt_succ_self _, ?_, f0, f1, rfl, rfl, hlt, hlk, rfl⟩
   have e5 : (u.take (i + 1)).map (Value.int .i64) = (u.take i).map (Value.int .i64) ++ [.int .i64 u[i]] := by
    rw [List.take_add_one, List.getElem?_eq_getElem hlt, List.map_append]; rfl
   exact (hset_at _ _ _).trans (by rw [e5]; rfl)
  ·obtain rfl : i = k := by omega
   repeat (first | refine qqm rfl ?_ | ((first | refine qqr ?_ | refine qqt ?_); simp only [SS, qx10, simprocAttr, f0, f1, f5, f6, hlt, hlk, decide_true, decide_false, ff_110]))
   first | refine qqf ?_ ?_ | refine qqg ?_ ?_
   ·exact k3.keep
   ·simp only [packed, qv, Nat.reduceEqDiff, ↓reduceIte, ff_110]
    refine ⟨some ⟨y, 0, none⟩, by rw [List.length_take, Nat.min_eq_left hil], rs_own hy⟩
 ·obtain rfl : i = u.length := by omega
  have e : u.take k = u := List.take_of_length_le hik
  rw [List.take_length] at hy
  rw [e]
  repeat (first | refine qqm rfl ?_ | ((first | refine qqr ?_ | refine qqt ?_); simp only [SS, qx10, simprocAttr, f0, f5, f6, hlt, decide_false, ff_110]))
  first | refine qqf ?_ ?_ | refine qqg ?_ ?_
  ·exact k3.keep
  ·simp only [packed, qv, Nat.reduceEqDiff, ↓reduceIte, ff_110]
   exact ⟨some ⟨y, 0, none⟩, rfl, rs_own hy⟩
set_option maxHeartbeats 16000000 in
theorem join02_gives {n k : Nat} {H : Heap} {a b : Option Addr} {u w : List Int} (hw : WF n H) (ha : RS (Value.int .i64) H a u) (hb : RS (Value.int .i64) H b w) (hl : u.length ≤ 1000) (hl2 : w.length ≤ 1000) (hk : k ≤ 65536) :
  Gives Try.prog 99 [.slice a u.length u.length, .slice b w.length w.length, .int .i64 (k : Nat)] n H fun v _ H' => ∃ p', v = .slice p' ((u ++ w).take k).length ((u ++ w).take k).length ∧ RS (Value.int .i64) H' p' ((u ++ w).take k) := by
 refine Gives.of orders ok99 (Nat.le_of_ble_eq_true rfl) ?_
 have hur := sp_row ha
 have hwr := sp_row hb
 have b1 : u.length ≤ bigN := by unfold bigN; omega
 have b2 : u.length + w.length ≤ bigN := by unfold bigN; omega
 have hnc : ([] : List Nat).contains n = false := rfl
 have hnc1 : ([] : List Nat).contains (n + 1) = false := rfl
 have hum : (u.map (Value.int .i64)).length = u.length := List.length_map _
 have hut : (u.map (Value.int .i64)).take u.length = u.map (Value.int .i64) := List.take_of_length_le (by omega)
 have k02 : ∀ A C, Kp n H (n + 1 + 1 + 1) (hset (hset (hset (hset H n .dead) (n + 1) A) (n + 1) .dead) (n + 1 + 1) C) := fun A C => (((Kp.new n H .dead).trans (Kp.new (n + 1) _ A)).set (x := n + 1) .dead (by omega) (by omega)).trans (Kp.new (n + 1 + 1) _ C)
 repeat refine qqn rfl ?_
 (refine qqr ?_; simp only [SS, qx30, simprocAttr, ff_99])
 repeat refine qqn rfl ?_
 have bw : w.length ≤ bigN := by unfold bigN; omega
 have k03 : ∀ C, Kp n H (n + 1 + 1 + 1) (hset (hset (hset H n .dead) (n + 1) .dead) (n + 1 + 1) C) := fun C => (Kp.new n H .dead).trans ((Kp.new (n + 1) _ .dead).trans (Kp.new (n + 1 + 1) _ C))
 rcases hur with ⟨h1, h2⟩ | ⟨x, kx, cs, ty, own, h1, h2, h3, h4⟩
 ·subst h1
  have l0 : u.length = 0 := by rw [h2]; rfl
  have m0 : u.map (Value.int .i64) = [] := by rw [h2]; rfl
  rcases hwr with ⟨g1, g2⟩ | ⟨x', kx', cs', ty', own', g1, g2, g3, g4⟩
  ·subst g1
   have l1 : w.length = 0 := by rw [g2]; rfl
   have m1 : w.map (Value.int .i64) = [] := by rw [g2]; rfl
   (refine qqr ?_; simp only [SS, qx30, simprocAttr, l0, l1, hnc, hnc1, hset_at, hset_hset, Nat.le_refl, List.drop_zero, Nat.mul_one, Nat.zero_mul, Nat.zero_add, Nat.add_zero, List.take_nil, List.drop_nil, List.nil_append, List.append_nil, List.take_zero, ff_99])
   have hL : (u ++ w).length = 0 := by rw [List.length_append, l0, l1]
   have hC : (u ++ w).map (Value.int .i64) = [] := by rw [List.map_append, m0, m1]; rfl
   have hc := cut02_gives (k := k) ((k03 _).wf hw) (rs_own (u := u ++ w) (z := n + 1 + 1) ((hset_at (hset (hset H n .dead) (n + 1) .dead) (n + 1 + 1) (.cells ([]) 3 true)).trans (by rw [hC]))) (by rw [List.length_append]; omega) hk
   rw [hL] at hc
   refine AtCall.by hc ?_
   rintro _ n4 H4 k4 ⟨p', rfl, hp'⟩
   simp only [SS, qx30, simprocAttr, ff_99]
   repeat (first | refine qqm rfl ?_ | ((first | refine qqr ?_ | refine qqt ?_); simp only [SS, qx30, simprocAttr, ff_99]))
   first | refine qqf ?_ ?_ | refine qqg ?_ ?_
   ·exact ((k03 _).trans k4).keep
   ·simp only [packed, qv, Nat.reduceEqDiff, ↓reduceIte, ff_99]
    exact ⟨p', rfl, hp'⟩
  ·subst g1
   have hxn := live_lt hw (live_of g2)
   have q1 : ∀ A, hset H n A x' = _ := fun A => (hset_ne _ _ _ (by omega)).trans g2
   have q2 : ∀ A B, hset (hset H n A) (n + 1) B x' = _ := fun A B => (hset_ne _ _ _ (by omega)).trans (q1 A)
   have c2 : [x'].contains (n + 1) = false := by simp; omega
   (refine qqr ?_; simp only [SS, qx30, simprocAttr, l0, hnc, hnc1, bw, q1, q2, g3, g4, c2, hset_at, hset_hset, Nat.le_refl, List.drop_zero, Nat.mul_one, Nat.zero_mul, Nat.zero_add, Nat.add_zero, List.take_nil, List.drop_nil, List.nil_append, List.append_nil, List.take_zero, ff_99])
   have hL : (u ++ w).length = w.length := by rw [List.length_append, l0, Nat.zero_add]
   have hC : (u ++ w).map (Value.int .i64) = w.map (Value.int .i64) := by rw [List.map_append, m0, List.nil_append]
   have hc := cut02_gives (k := k) ((k03 _).wf hw) (rs_own (u := u ++ w) (z := n + 1 + 1) ((hset_at (hset (hset H n .dead) (n + 1) .dead) (n + 1 + 1) (.cells (w.map (Value.int .i64)) 3 true)).trans (by rw [hC]))) (by rw [List.length_append]; omega) hk
   rw [hL] at hc
   refine AtCall.by hc ?_
   rintro _ n4 H4 k4 ⟨p', rfl, hp'⟩
   simp only [SS, qx30, simprocAttr, ff_99]
   repeat (first | refine qqm rfl ?_ | ((first | refine qqr ?_ | refine qqt ?_); simp only [SS, qx30, simprocAttr, ff_99]))
   first | refine qqf ?_ ?_ | refine qqg ?_ ?_
   ·exact ((k03 _).trans k4).keep
   ·simp only [packed, qv, Nat.reduceEqDiff, ↓reduceIte, ff_99]
    exact ⟨p', rfl, hp'⟩
 ·subst h1
  have hxn := live_lt hw (live_of h2)
  have r1 : ∀ A, hset H n A x = _ := fun A => (hset_ne _ _ _ (by omega)).trans h2
  have c1 : [x].contains n = false := by simp; omega
  rcases hwr with ⟨g1, g2⟩ | ⟨x', kx', cs', ty', own', g1, g2, g3, g4⟩
  ·subst g1
   have l1 : w.length = 0 := by rw [g2]; rfl
   have m1 : w.map (Value.int .i64) = [] := by rw [g2]; rfl
   (refine qqr ?_; simp only [SS, qx30, simprocAttr, l1, hnc, hnc1, b1, hum, hut, r1, h3, h4, c1, hset_at, hset_hset, Nat.le_refl, List.drop_zero, Nat.mul_one, Nat.zero_mul, Nat.zero_add, Nat.add_zero, List.take_nil, List.drop_nil, List.nil_append, List.append_nil, List.take_zero, ff_99])
   have hL : (u ++ w).length = u.length := by rw [List.length_append, l1, Nat.add_zero]
   have hC : (u ++ w).map (Value.int .i64) = u.map (Value.int .i64) := by rw [List.map_append, m1, List.append_nil]
   have hc := cut02_gives (k := k) ((k03 _).wf hw) (rs_own (u := u ++ w) (z := n + 1 + 1) ((hset_at (hset (hset H n .dead) (n + 1) .dead) (n + 1 + 1) (.cells (u.map (Value.int .i64)) 3 true)).trans (by rw [hC]))) (by rw [List.length_append]; omega) hk
   rw [hL] at hc
   refine AtCall.by hc ?_
   rintro _ n4 H4 k4 ⟨p', rfl, hp'⟩
   simp only [SS, qx30, simprocAttr, ff_99]
   repeat (first | refine qqm rfl ?_ | ((first | refine qqr ?_ | refine qqt ?_); simp only [SS, qx30, simprocAttr, ff_99]))
   first | refine qqf ?_ ?_ | refine qqg ?_ ?_
   ·exact ((k03 _).trans k4).keep
   ·simp only [packed, qv, Nat.reduceEqDiff, ↓reduceIte, ff_99]
    exact ⟨p', rfl, hp'⟩
  ·subst g1
   have hxn' := live_lt hw (live_of g2)
   have q1 : ∀ A, hset H n A x' = _ := fun A => (hset_ne _ _ _ (by omega)).trans g2
   have q2 : ∀ A B, hset (hset H n A) (n + 1) B x' = _ := fun A B => (hset_ne _ _ _ (by omega)).trans (q1 A)
   have c2 : [x'].contains (n + 1) = false := by simp; omega
   (refine qqr ?_; simp only [SS, qx30, simprocAttr, hnc, hnc1, b1, b2, bw, hum, hut, r1, h3, h4, c1, q1, q2, g3, g4, c2, hset_at, hset_hset, Nat.le_refl, List.drop_zero, Nat.mul_one, Nat.zero_mul, Nat.zero_add, Nat.add_zero, List.take_nil, List.drop_nil, List.nil_append, List.append_nil, List.take_zero, ff_99])
   have hL : (u ++ w).length = u.length + w.length := by rw [List.length_append]
   have hC : (u ++ w).map (Value.int .i64) = u.map (Value.int .i64) ++ w.map (Value.int .i64) := by rw [List.map_append]
   have hc := cut02_gives (k := k) ((k03 _).wf hw) (rs_own (u := u ++ w) (z := n + 1 + 1) ((hset_at (hset (hset H n .dead) (n + 1) .dead) (n + 1 + 1) (.cells (u.map (Value.int .i64) ++ w.map (Value.int .i64)) 3 true)).trans (by rw [hC]))) (by rw [List.length_append]; omega) hk
   rw [hL] at hc
   refine AtCall.by hc ?_
   rintro _ n4 H4 k4 ⟨p', rfl, hp'⟩
   simp only [SS, qx30, simprocAttr, ff_99]
   repeat (first | refine qqm rfl ?_ | ((first | refine qqr ?_ | refine qqt ?_); simp only [SS, qx30, simprocAttr, ff_99]))
   first | refine qqf ?_ ?_ | refine qqg ?_ ?_
   ·exact ((k03 _).trans k4).keep
   ·simp only [packed, qv, Nat.reduceEqDiff, ↓reduceIte, ff_99]
    exact ⟨p', rfl, hp'⟩
structure BothS (X Y Z : List WA) : Prop where
 mem : ∀ c, c ∈ Z.map (·.1) ↔ c ∈ X.map (·.1) ∨ c ∈ Y.map (·.1)
 nd : (X.map (·.1)).Nodup → (Z.map (·.1)).Nodup
 le : X.length ≤ Z.length
 len : Z.length ≤ X.length + Y.length
 sub : Z.length = X.length → ∀ c ∈ Y.map (·.1), c ∈ X.map (·.1)
theorem AddS.both {X Y Z : List WA} {i : Nat} {W : List WA} (hi : i < Y.length) (h : BothS X (Y.take i) Z) (k : AddS Z W Y[i].1) : BothS X (Y.take (i + 1)) W := by
 have e : (Y.take (i + 1)).map (·.1) = (Y.take i).map (·.1) ++ [Y[i].1] := by
  rw [List.take_add_one, List.getElem?_eq_getElem hi, List.map_append]; rfl
 have hl : (Y.take (i + 1)).length = (Y.take i).length + 1 := by rw [List.length_take, List.length_take]; omega
 have hk := k.len
 refine ⟨fun c => ?_, fun hn => k.nd (h.nd hn), by have := h.le; rw [hk]; split <;> omega, by have := h.len; rw [hk, hl]; split <;> omega, fun he c hc => ?_⟩
 ·rw [k.mem, h.mem, e, List.mem_append, List.mem_singleton, or_assoc]
 ·have h1 := h.le
  have h2 : Y[i].1 ∈ Z.map (·.1) := by
   apply Classical.byContradiction
   intro hc
   rw [if_neg hc] at hk
   omega
  rw [if_pos h2] at hk
  have h3 := h.sub (by omega)
  rw [e, List.mem_append, List.mem_singleton] at hc
  rcases hc with hc | rfl
  ·exact h3 c hc
  ·rcases (h.mem _).1 h2 with h4 | h4
   ·exact h4
   ·exact h3 _ h4
end Go.Proofs.Ytfbdababcdfjfaa

namespace Go.Proofs.Ytfbdababcdfjfaa
open Go.AM
set_option maxRecDepth 100000
theorem BothS.nil (X : List WA) : BothS X [] X := ⟨fun c => by simp, id, Nat.le_refl _, Nat.le_refl _, fun _ c hc => by simp at hc⟩
set_option maxHeartbeats 4000000 in
theorem both02_gives {n : Nat} {H : Heap} {p q : Option Addr} {X Y : List WA} (hw : WF n H) (hX : WS H p X) (hY : WS H q Y) (hl : X.length ≤ 400000) (hl2 : Y.length ≤ 400000) (hxl : ∀ x ∈ X, x.1.length ≤ 1000) (hyl : ∀ x ∈ Y, x.1.length ≤ 1000) :
  Gives Try.prog 53 [.slice p X.length X.length, .slice q Y.length Y.length] n H fun v _ H' => ∃ p' Z, v = .slice p' Z.length Z.length ∧ WS H' p' Z ∧ BothS X Y Z := by
 refine Gives.of orders ok53 (Nat.le_of_ble_eq_true rfl) ?_
 repeat (first | refine qqm rfl ?_ | ((first | refine qqr ?_ | refine qqt ?_); simp only [SS, qx6, simprocAttr, ff_53]))
 refine WK.loop (fun kk s => ∃ (j : Nat) (p' : Option Addr) (Z : List WA), Kp n H s.n s.H ∧ WS s.H p' Z ∧ BothS X (Y.take j) Z ∧ s.f 0 = .slice p' Z.length Z.length ∧ s.f 1 = .slice q Y.length Y.length ∧ s.f 5 = .int .i64 (j : Nat) ∧ j ≤ Y.length ∧ kk = Y.length - j) Y.length ?_ ?_
 ·exact ⟨0, p, X, Kp.refl _ _, hX, BothS.nil X, rfl, rfl, rfl, Nat.zero_le _, rfl⟩
 rintro kk ⟨f, n3, H3⟩ ⟨j, p', Z, k3, hZ, hB, f0, f1, f5, hjl, rfl⟩ ih
 simp only at k3 hZ f0 f1 f5 ih
 have hw3 := k3.wf hw
 by_cases hlt : j < Y.length
 ·have hjw : IntKind.i64.wrap ((j : Int) + 1) = ((j + 1 : Nat) : Int) := by rw [wrap_in (by omega) (by omega)]; rfl
  have hY3 := hY.mono hw k3
  obtain ⟨z, kz, cs, tz, oz, e0, hz, e⟩ := hY3.at hlt
  subst e0
  have hmem := List.getElem_mem hlt
  have hZl : Z.length ≤ 1000000 := by have := hB.len; rw [List.length_take] at this; omega
  have hZw : ∀ x ∈ Z, x.1.length ≤ 1000 := fun x hx => by
   rcases (hB.mem x.1).1 (List.mem_map.2 ⟨x, hx, rfl⟩) with h | h
   ·obtain ⟨y, hy, e⟩ := List.mem_map.1 h; rw [← e]; exact hxl y hy
   ·obtain ⟨y, hy, e⟩ := List.mem_map.1 h; rw [← e]; exact hyl y (List.mem_of_mem_take hy)
  repeat (first | refine qqm rfl ?_ | ((first | refine qqr ?_ | refine qqt ?_); simp only [SS, qx6, simprocAttr, f0, f1, f5, hlt, hz, e, ff_53]))
  refine AtCall.by (add02_gives hw3 hZ (hY3.w _ hmem).1 hZl hZw (hyl _ hmem)) ?_
  rintro _ n4 H4 k4 ⟨p4, W, rfl, hW, hA⟩
  simp only [SS, qx6, simprocAttr, ff_53]
  repeat (first | refine qqm rfl ?_ | ((first | refine qqr ?_ | refine qqt ?_); simp only [SS, qx6, simprocAttr, f5, hjw, ff_53]))
  refine ih (Y.length - (j + 1)) (by omega) _ ?_
  exact ⟨j + 1, p4, W, k3.trans k4, hW, hA.both hlt hB, rfl, f1, rfl, hlt, rfl⟩
 ·obtain rfl : j = Y.length := by omega
  rw [List.take_length] at hB
  repeat (first | refine qqm rfl ?_ | ((first | refine qqr ?_ | refine qqt ?_); simp only [SS, qx6, simprocAttr, f0, f1, f5, hlt, ff_53]))
  first | refine qqf ?_ ?_ | refine qqg ?_ ?_
  ·exact k3.keep
  ·simp only [packed, qv, Nat.reduceEqDiff, ↓reduceIte, ff_53]
   exact ⟨p', Z, rfl, hZ, hB⟩
structure TimS (k : Nat) (X Y Z : List WA) : Prop where
 mem : ∀ c, c ∈ Z.map (·.1) ↔ ∃ a ∈ X.map (·.1), ∃ b ∈ Y.map (·.1), c = (a ++ b).take k
 nd : (Z.map (·.1)).Nodup
set_option maxHeartbeats 8000000 in
theorem times02_gives {n k : Nat} {H : Heap} {p q : Option Addr} {X Y : List WA} (hw : WF n H) (hX : WS H p X) (hY : WS H q Y) (hl : X.length ≤ 900) (hl2 : Y.length ≤ 900) (hxl : ∀ x ∈ X, x.1.length ≤ 1000) (hyl : ∀ x ∈ Y, x.1.length ≤ 1000) (hk : k ≤ 1000) :
  Gives Try.prog 78 [.slice p X.length X.length, .slice q Y.length Y.length, .int .i64 (k : Nat)] n H fun v _ H' => ∃ p' Z, v = .slice p' Z.length Z.length ∧ WS H' p' Z ∧ TimS k X Y Z := by
 refine Gives.of orders ok78 (Nat.le_of_ble_eq_true rfl) ?_
 repeat refine qqn rfl ?_
 (refine qqr ?_; simp only [SS, qx40, simprocAttr, ff_78])
 repeat refine qqn rfl ?_
 (refine qqr ?_; simp only [SS, qx40, simprocAttr, ff_78])
 have kO := Kp.new n H (.cells [] 26 true)
 have hO := hset_at H n (.cells [] 26 true)
 generalize hset H n (.cells [] 26 true) = H2 at *
 repeat (first | refine qqm rfl ?_ | ((first | refine qqr ?_ | refine qqt ?_); simp only [SS, qx40, simprocAttr, ff_78]))
 refine WK.loop (fun kk s => ∃ (i : Nat) (p' : Option Addr) (Z : List WA), Kp n H s.n s.H ∧ WS s.H p' Z ∧ (∀ c, c ∈ Z.map (·.1) ↔ ∃ a ∈ (X.take i).map (·.1), ∃ b ∈ Y.map (·.1), c = (a ++ b).take k) ∧ (Z.map (·.1)).Nodup ∧ Z.length ≤ i * Y.length ∧ s.f 0 = .slice p X.length X.length ∧ s.f 1 = .slice q Y.length Y.length ∧ s.f 2 = .int .i64 (k : Nat) ∧ s.f 7 = .slice p' Z.length Z.length ∧ s.f 8 = .int .i64 (i : Nat) ∧ i ≤ X.length ∧ kk = X.length - i) X.length ?_ ?_
 ·exact ⟨0, some ⟨n, 0, none⟩, [], kO, ws_at hO (fun x hx => by cases hx), fun c => by simp, by simp, Nat.zero_le _, rfl, rfl, rfl, rfl, rfl, Nat.zero_le _, rfl⟩
 rintro kk ⟨f, n3, H3⟩ ⟨i, p', Z, k3, hZ, hZm, hZn, hZl, f0, f1, f2, f7, f8, hil, rfl⟩ ih
 simp only at k3 hZ f0 f1 f2 f7 f8 ih
 have hw3 := k3.wf hw
 by_cases hlt : i < X.length
 ·have hiw : IntKind.i64.wrap ((i : Int) + 1) = ((i + 1 : Nat) : Int) := by rw [wrap_in (by omega) (by omega)]; rfl
  have hmem := List.getElem_mem hlt
  have htk : (X.take (i + 1)).map (·.1) = (X.take i).map (·.1) ++ [X[i].1] := by
   rw [List.take_add_one, List.getElem?_eq_getElem hlt, List.map_append]; rfl
  have hprod : (i + 1) * Y.length ≤ 900 * 900 := Nat.mul_le_mul (by omega) hl2
  have hpr1 : (i + 1) * Y.length = i * Y.length + Y.length := Nat.succ_mul _ _
  repeat (first | refine qqm rfl ?_ | ((first | refine qqr ?_ | refine qqt ?_); simp only [SS, qx40, simprocAttr, f0, f8, hlt, ff_78]))
  refine WK.loop (fun kk s => ∃ (j : Nat) (p' : Option Addr) (Z : List WA), Kp n H s.n s.H ∧ WS s.H p' Z ∧ (∀ c, c ∈ Z.map (·.1) ↔ (∃ a ∈ (X.take i).map (·.1), ∃ b ∈ Y.map (·.1), c = (a ++ b).take k) ∨ ∃ b ∈ (Y.take j).map (·.1), c = (X[i].1 ++ b).take k) ∧ (Z.map (·.1)).Nodup ∧ Z.length ≤ i * Y.length + j ∧ s.f 0 = .slice p X.length X.length ∧ s.f 1 = .slice q Y.length Y.length ∧ s.f 2 = .int .i64 (k : Nat) ∧ s.f 7 = .slice p' Z.length Z.length ∧ s.f 8 = .int .i64 (i : Nat) ∧ s.f 9 = .int .i64 (j : Nat) ∧ j ≤ Y.length ∧ kk = Y.length - j) Y.length ?_ ?_
  ·exact ⟨0, p', Z, k3, hZ, fun c => by rw [hZm]; simp, hZn, by omega, f0, f1, f2, f7, f8, rfl, Nat.zero_le _, rfl⟩
  clear k3 hZ hZm hZn hZl f0 f1 f2 f7 f8 hw3 p' Z f n3 H3
  rintro kk ⟨f, n3, H3⟩ ⟨j, p', Z, k3, hZ, hZm, hZn, hZl, f0, f1, f2, f7, f8, f9, hjl, rfl⟩ ih2
  simp only at k3 hZ f0 f1 f2 f7 f8 f9 ih2
  have hw3 := k3.wf hw
  by_cases hjt : j < Y.length
  ·have hjw : IntKind.i64.wrap ((j : Int) + 1) = ((j + 1 : Nat) : Int) := by rw [wrap_in (by omega) (by omega)]; rfl
   have hX3 := hX.mono hw k3
   have hY3 := hY.mono hw k3
   obtain ⟨z, kz, cs, tz, oz, e0, hz, e⟩ := hX3.at hlt
   obtain ⟨z', kz', cs', tz', oz', e0', hz', e'⟩ := hY3.at hjt
   subst e0 e0'
   have hmem2 := List.getElem_mem hjt
   have htk2 : (Y.take (j + 1)).map (·.1) = (Y.take j).map (·.1) ++ [Y[j].1] := by
    rw [List.take_add_one, List.getElem?_eq_getElem hjt, List.map_append]; rfl
   have hZw : ∀ x ∈ Z, x.1.length ≤ 1000 := fun x hx => by
    rcases (hZm x.1).1 (List.mem_map.2 ⟨x, hx, rfl⟩) with ⟨a, _, b, _, e⟩ | ⟨b, _, e⟩ <;> (rw [e, List.length_take]; omega)
   repeat (first | refine qqm rfl ?_ | ((first | refine qqr ?_ | refine qqt ?_); simp only [SS, qx40, simprocAttr, f0, f1, f2, f7, f8, f9, hlt, hjt, hz, e, hz', e', ff_78]))
   refine AtCall.by (join02_gives hw3 (hX3.w _ hmem).1 (hY3.w _ hmem2).1 (hxl _ hmem) (hyl _ hmem2) (by omega)) ?_
   rintro _ n4 H4 k4 ⟨pj, rfl, hj⟩
   simp only [SS, qx40, simprocAttr, f7, ff_78]
   refine AtCall.by (add02_gives (k4.wf hw3) (hZ.mono hw3 k4) hj (by omega) hZw (by rw [List.length_take]; omega)) ?_
   rintro _ n5 H5 k5 ⟨p5, W, rfl, hW, hA⟩
   simp only [SS, qx40, simprocAttr, ff_78]
   repeat (first | refine qqm rfl ?_ | ((first | refine qqr ?_ | refine qqt ?_); simp only [SS, qx40, simprocAttr, f9, hjw, ff_78]))
   refine ih2 (Y.length - (j + 1)) (by omega) _ ?_
   refine ⟨j + 1, p5, W, k3.trans (k4.trans k5), hW, fun c => ?_, hA.nd hZn, by have := hA.len; rw [this]; split <;> omega, f0, f1, f2, rfl, f8, rfl, hjt, rfl⟩
   rw [hA.mem, hZm, htk2, or_assoc]
   constructor
   ·rintro (h | ⟨b, hb, h⟩ | h)
    ·exact .inl h
    ·exact .inr ⟨b, List.mem_append_left _ hb, h⟩
    ·exact .inr ⟨_, List.mem_append_right _ (List.mem_singleton.2 rfl), h⟩
   ·rintro (h | ⟨b, hb, h⟩)
    ·exact .inl h
    ·rcases List.mem_append.1 hb with hb | hb
     ·exact .inr (.inl ⟨b, hb, h⟩)
     ·rw [List.mem_singleton] at hb
      rw [hb] at h
      exact .inr (.inr h)
  ·obtain rfl : j = Y.length := by omega
   rw [List.take_length] at hZm
   repeat (first | refine qqm rfl ?_ | ((first | refine qqr ?_ | refine qqt ?_); simp only [SS, qx40, simprocAttr, f1, f8, f9, hjt, hiw, ff_78]))
   refine ih (X.length - (i + 1)) (by omega) _ ?_
   refine ⟨i + 1, p', Z, k3, hZ, fun c => ?_, hZn, by omega, f0, f1, f2, f7, rfl, hlt, rfl⟩
   rw [hZm, htk]
   constructor
   ·rintro (⟨a, ha, h⟩ | ⟨b, hb, h⟩)
    ·exact ⟨a, List.mem_append_left _ ha, h⟩
    ·exact ⟨_, List.mem_append_right _ (List.mem_singleton.2 rfl), b, hb, h⟩
   ·rintro ⟨a, ha, b, hb, h⟩
    rcases List.mem_append.1 ha with ha | ha
    ·exact .inl ⟨a, ha, b, hb, h⟩
    ·rw [List.mem_singleton] at ha
     rw [ha] at h
     exact .inr ⟨b, hb, h⟩
 ·obtain rfl : i = X.length := by omega
  rw [List.take_length] at hZm
  repeat (first | refine qqm rfl ?_ | ((first | refine qqr ?_ | refine qqt ?_); simp only [SS, qx40, simprocAttr, f0, f7, f8, hlt, ff_78]))
  first | refine qqf ?_ ?_ | refine qqg ?_ ?_
  ·exact k3.keep
  ·simp only [packed, qv, Nat.reduceEqDiff, ↓reduceIte, ff_78]
   exact ⟨p', Z, rfl, hZ, hZm, hZn⟩
end Go.Proofs.Ytfbdababcdfjfaa

namespace Go.Proofs.Ytfbdababcdfjfaa
open Go.AM
set_option maxRecDepth 100000
def GW (u : List Int) : Prop := u.length ≤ 2 ∧ ∀ t ∈ u, 0 ≤ t ∧ t < 6
def six : List Int := [0, 1, 2, 3, 4, 5]
def allW : List (List Int) := [[]] ++ six.map (fun a => [a]) ++ six.flatMap fun a => six.map fun b => [a, b]
theorem six_mem {t : Int} (h0 : 0 ≤ t) (h1 : t < 6) : t ∈ six := by
 unfold six
 have : t = 0 ∨ t = 1 ∨ t = 2 ∨ t = 3 ∨ t = 4 ∨ t = 5 := by omega
 rcases this with rfl | rfl | rfl | rfl | rfl | rfl <;> simp
theorem gw_mem {u : List Int} (h : GW u) : u ∈ allW := by
 obtain ⟨h1, h2⟩ := h
 unfold allW
 match u with
 | [] => simp
 | [a] =>
  have ha := h2 a (by simp)
  exact List.mem_append_left _ (List.mem_append_right _ (List.mem_map.2 ⟨a, six_mem ha.1 ha.2, rfl⟩))
 | [a, b] =>
  have ha := h2 a (by simp)
  have hb := h2 b (by simp)
  exact List.mem_append_right _ (List.mem_flatMap.2 ⟨a, six_mem ha.1 ha.2, List.mem_map.2 ⟨b, six_mem hb.1 hb.2, rfl⟩⟩)
 | a :: b :: c :: u => simp at h1
theorem gw_len {L : List (List Int)} (hn : L.Nodup) (h : ∀ u ∈ L, GW u) : L.length ≤ 43 :=
 nodup_sub_len L allW hn fun u hu => gw_mem (h u hu)
theorem gw_take {a b : List Int} (ha : GW a) (hb : GW b) : GW ((a ++ b).take 2) := by
 refine ⟨by rw [List.length_take]; omega, fun t ht => ?_⟩
 rcases List.mem_append.1 (List.mem_of_mem_take ht) with h | h
 ·exact ha.2 t h
 ·exact hb.2 t h
def tms (k : Nat) (A B : List Int → Prop) : List Int → Prop := fun c => ∃ a, A a ∧ ∃ b, B b ∧ c = (a ++ b).take k
def symP (F : Int → List Int → Prop) (s : Int) : List Int → Prop := fun c => if 0 ≤ s then F s c else c = [-s - 1]
def formP (F : Int → List Int → Prop) (form : List Int) : List Int → Prop := form.foldl (fun A s => tms 2 A (symP F s)) fun c => c = []
def aheadP (F : Int → List Int → Prop) (form : List Int) (T : List Int → Prop) : List Int → Prop := tms 2 (formP F form) T
theorem formP_snoc (F : Int → List Int → Prop) (form : List Int) (s : Int) : formP F (form ++ [s]) = tms 2 (formP F form) (symP F s) := by
 unfold formP
 rw [List.foldl_append]; rfl
abbrev SA := List WA × Option Addr
def scell (x : SA) : List Value := [.slice x.2 x.1.length x.1.length]
theorem scell_len (x : SA) : (scell x).length = 1 := rfl
structure GoodS (H : Heap) (p : Option Addr) (X : List WA) : Prop where
 ws : WS H p X
 nd : (X.map (·.1)).Nodup
 gw : ∀ c ∈ X.map (·.1), GW c
theorem GoodS.mono {n n' : Nat} {H H' : Heap} {p : Option Addr} {X : List WA} (h : GoodS H p X) (hw : WF n H) (k : Kp n H n' H') : GoodS H' p X := ⟨h.ws.mono hw k, h.nd, h.gw⟩
theorem GoodS.len {H : Heap} {p : Option Addr} {X : List WA} (h : GoodS H p X) : X.length ≤ 43 := by
 have := gw_len h.nd h.gw
 rwa [List.length_map] at this
theorem GoodS.wl {H : Heap} {p : Option Addr} {X : List WA} (h : GoodS H p X) : ∀ x ∈ X, x.1.length ≤ 1000 := fun x hx => by
 have := (h.gw x.1 (List.mem_map.2 ⟨x, hx, rfl⟩)).1
 omega
structure RowS (H : Heap) (p : Option Addr) (Fs : List SA) : Prop where
 row : RN 1 scell H p Fs
 s : ∀ x ∈ Fs, GoodS H x.2 x.1
theorem RowS.mono {n n' : Nat} {H H' : Heap} {p : Option Addr} {X : List SA} (h : RowS H p X) (hw : WF n H) (k : Kp n H n' H') : RowS H' p X :=
 ⟨h.row.mono hw k, fun x hx => (h.s x hx).mono hw k⟩
theorem RowS.at {H : Heap} {p : Option Addr} {X : List SA} (h : RowS H p X) {i : Nat} (hi : i < X.length) : ∃ x k cs ty own, p = some ⟨x, k, none⟩ ∧ H x = .cells cs ty own ∧ cs[k + i]? = some (.slice X[i].2 X[i].1.length X[i].1.length) := by
 obtain ⟨x, k, cs, ty, own, e1, e2, e3, e4⟩ := h.row.at scell_len hi
 refine ⟨x, k, cs, ty, own, e1, e2, ?_⟩
 rw [Nat.mul_one] at e3
 have h1 : ((cs.drop (k + i)).take 1)[0]? = (scell X[i])[0]? := by rw [e3]
 rw [List.getElem?_take, List.getElem?_drop] at h1
 simpa [scell] using h1
def setP (Fs : List SA) (s : Int) (c : List Int) : Prop := ∃ x, Fs[s.toNat]? = some x ∧ c ∈ x.1.map (·.1)
def sagg (pF pO : Option Addr) (nF nO : Nat) : Value := .agg #[.int .i64 2, .slice pF nF nF, .slice pO nO nO]
theorem good_tms {H : Heap} {p' : Option Addr} {X Y Z : List WA} (hX : ∀ c ∈ X.map (·.1), GW c) (hY : ∀ c ∈ Y.map (·.1), GW c) (hZ : WS H p' Z) (h : TimS 2 X Y Z) : GoodS H p' Z :=
 ⟨hZ, h.nd, fun c hc => by obtain ⟨a, ha, b, hb, rfl⟩ := (h.mem c).1 hc; exact gw_take (hX a ha) (hY b hb)⟩
set_option maxHeartbeats 16000000 in
theorem ahead_gives {n : Nat} {H : Heap} {pF pO pf q : Option Addr} {Fs : List SA} {nO : Nat} {form : List Int} {T : List WA} (hw : WF n H) (hF : RowS H pF Fs) (hf : RA (Value.int .i64) H pf form) (hT : GoodS H q T) (hfl : form.length ≤ 1000)
  (hs : ∀ s ∈ form, s < Fs.length ∧ -7 < s) :
  Gives Try.prog 54 [sagg pF pO Fs.length nO, .slice pf form.length form.length, .slice q T.length T.length] n H fun v _ H' => ∃ p' Z, v = .slice p' Z.length Z.length ∧ GoodS H' p' Z ∧ ∀ c, c ∈ Z.map (·.1) ↔ aheadP (setP Fs) form (fun c => c ∈ T.map (·.1)) c := by
 refine Gives.of orders ok54 (Nat.le_of_ble_eq_true rfl) ?_
 unfold sagg
 repeat refine qqn rfl ?_
 (refine qqr ?_; simp only [SS, qx35, vun, simprocAttr, abox, one, ff_54])
 have k1 := Kp.new n H (.cells [.int .i64 2, .slice pF Fs.length Fs.length, .slice pO nO nO] 60 true)
 have hb := hset_at H n (.cells [.int .i64 2, .slice pF Fs.length Fs.length, .slice pO nO nO] 60 true)
 generalize hset H n (.cells [.int .i64 2, .slice pF Fs.length Fs.length, .slice pO nO nO] 60 true) = H1 at *
 have hw1 := k1.wf hw
 repeat refine qqn rfl ?_
 (refine qqr ?_; simp only [SS, qx35, vun, simprocAttr, ff_54])
 have k2 := (Kp.new (n + 1) H1 (.cells [] 3 true)).trans (Kp.new (n + 1 + 1) _ (.cells [.slice (some ⟨n + 1, 0, none⟩) 0 0] 26 true))
 have hO : (hset (hset H1 (n + 1) (.cells [] 3 true)) (n + 1 + 1) (.cells [.slice (some ⟨n + 1, 0, none⟩) 0 0] 26 true)) (n + 1 + 1) = .cells [.slice (some ⟨n + 1, 0, none⟩) 0 0] 26 true := hset_at _ _ _
 have hO1 : (hset (hset H1 (n + 1) (.cells [] 3 true)) (n + 1 + 1) (.cells [.slice (some ⟨n + 1, 0, none⟩) 0 0] 26 true)) (n + 1) = .cells [] 3 true := (hset_ne _ _ _ (by omega)).trans (hset_at _ _ _)
 generalize (hset (hset H1 (n + 1) (.cells [] 3 true)) (n + 1 + 1) (.cells [.slice (some ⟨n + 1, 0, none⟩) 0 0] 26 true)) = H2 at *
 have hG0 : GoodS H2 (some ⟨n + 1 + 1, 0, none⟩) [(([] : List Int), some ⟨n + 1, 0, none⟩)] := by
  refine ⟨ws_at hO fun x hx => ?_, by simp, fun c hc => ?_⟩
  ·rw [List.mem_singleton] at hx
   rw [hx]; exact wd_own hO1
  ·simp at hc; subst hc; exact ⟨by simp, fun t ht => by cases ht⟩
 repeat (first | refine qqm rfl ?_ | ((first | refine qqr ?_ | refine qqt ?_); simp only [SS, qx35, vun, simprocAttr, ff_54]))
 refine WK.loop (fun kk s => ∃ (j : Nat) (p' : Option Addr) (Z : List WA), Kp (n + 1) H1 s.n s.H ∧ GoodS s.H p' Z ∧ (∀ c, c ∈ Z.map (·.1) ↔ formP (setP Fs) (form.take j) c) ∧ s.f 3 = .pointer (some ⟨n, 0, none⟩) ∧ s.f 1 = .slice pf form.length form.length ∧ s.f 2 = .slice q T.length T.length ∧ s.f 7 = .slice p' Z.length Z.length ∧ s.f 8 = .int .i64 (j : Nat) ∧ j ≤ form.length ∧ kk = form.length - j) form.length ?_ ?_
 ·exact ⟨0, some ⟨n + 1 + 1, 0, none⟩, _, k2, hG0, fun c => by simp [formP], rfl, rfl, rfl, rfl, rfl, Nat.zero_le _, rfl⟩
 rintro kk ⟨f, n3, H3⟩ ⟨j, p', Z, k3, hZ, hZm, f3, f1, f2, f7, f8, hjl, rfl⟩ ih
 simp only at k3 hZ f3 f1 f2 f7 f8 ih
 have hw3 := k3.wf hw1
 have hle3 := k3.le
 have k13 := k1.trans k3
 have hb3 := (k3.keep n (by omega)).trans hb
 have hZl := hZ.len
 by_cases hlt : j < form.length
 ·have hjw : IntKind.i64.wrap ((j : Int) + 1) = ((j + 1 : Nat) : Int) := by rw [wrap_in (by omega) (by omega)]; rfl
  obtain ⟨z, kz, cs, tz, oz, e0, hz, e⟩ := (hf.mono hw k13).at hlt
  subst e0
  obtain ⟨hs1, hs2⟩ := hs _ (List.getElem_mem hlt)
  have htk : form.take (j + 1) = form.take j ++ [form[j]] := by
   rw [List.take_add_one, List.getElem?_eq_getElem hlt]; rfl
  have hfp : formP (setP Fs) (form.take (j + 1)) = tms 2 (formP (setP Fs) (form.take j)) (symP (setP Fs) form[j]) := by rw [htk, formP_snoc]
  generalize form[j] = s at *
  by_cases h0 : 0 ≤ s
  ·obtain ⟨sn, rfl⟩ : ∃ sn : Nat, s = sn := ⟨s.toNat, by omega⟩
   have hsn : sn < Fs.length := by omega
   have hF3 := hF.mono hw k13
   obtain ⟨zF, kF, cF, tF, oF, eF, hzF, hcF⟩ := hF3.at hsn
   subst eF
   have hgs := hF3.s _ (List.getElem_mem hsn)
   have h0' : ((0 : Int) ≤ (sn : Int)) = True := eq_true h0
   repeat (first | refine qqm rfl ?_ | ((first | refine qqr ?_ | refine qqt ?_); simp only [SS, qx35, vun, simprocAttr, f1, f3, f7, f8, hlt, hz, e, h0', hb3, hzF, hcF, hsn, ff_54]))
   refine AtCall.by (times02_gives (k := 2) hw3 hZ.ws hgs.ws (by omega) (by have := hgs.len; omega) hZ.wl hgs.wl (by omega)) ?_
   rintro _ n4 H4 k4 ⟨p4, W, rfl, hW, hT2⟩
   simp only [SS, qx35, vun, simprocAttr, ff_54]
   repeat (first | refine qqm rfl ?_ | ((first | refine qqr ?_ | refine qqt ?_); simp only [SS, qx35, vun, simprocAttr, f8, hjw, ff_54]))
   refine ih (form.length - (j + 1)) (by omega) _ ?_
   refine ⟨j + 1, p4, W, k3.trans k4, good_tms hZ.gw hgs.gw hW hT2, fun c => ?_, f3, f1, f2, rfl, rfl, hlt, rfl⟩
   rw [hT2.mem, hfp]
   unfold tms symP
   simp only [h0, if_true, ↓reduceIte]
   constructor
   ·rintro ⟨a, ha, b, hb, h⟩
    exact ⟨a, (hZm a).1 ha, b, ⟨Fs[sn], by rw [Int.toNat_natCast]; exact List.getElem?_eq_getElem hsn, hb⟩, h⟩
   ·rintro ⟨a, ha, b, ⟨x, hx, hb⟩, h⟩
    rw [Int.toNat_natCast, List.getElem?_eq_getElem hsn] at hx
    cases hx
    exact ⟨a, (hZm a).2 ha, b, hb, h⟩
  ·have h0' : (0 ≤ s) = False := eq_false h0
   have hnot := bnot_i64 (n := s) (by omega) (by omega)
   have m1 : ∀ A B, hset (hset H3 n3 A) (n3 + 1) B n = _ := fun A B => (hset_ne _ _ _ (by omega)).trans ((hset_ne _ _ _ (by omega)).trans hb3)
   repeat (first | refine qqm rfl ?_ | ((first | refine qqr ?_ | refine qqt ?_); simp only [SS, qx35, vun, simprocAttr, f1, f3, f7, f8, hlt, hz, e, h0', hb3, hnot, m1, ff_54]))
   have kl := (Kp.new n3 H3 (.cells [.int .i64 (-s - 1)] 3 true)).trans (Kp.new (n3 + 1) _ (.cells [.slice (some ⟨n3, 0, none⟩) 1 1] 26 true))
   have l1 : (hset (hset H3 n3 (.cells [.int .i64 (-s - 1)] 3 true)) (n3 + 1) (.cells [.slice (some ⟨n3, 0, none⟩) 1 1] 26 true)) (n3 + 1) = .cells [.slice (some ⟨n3, 0, none⟩) 1 1] 26 true := hset_at _ _ _
   have l2 : (hset (hset H3 n3 (.cells [.int .i64 (-s - 1)] 3 true)) (n3 + 1) (.cells [.slice (some ⟨n3, 0, none⟩) 1 1] 26 true)) n3 = .cells [.int .i64 (-s - 1)] 3 true := (hset_ne _ _ _ (by omega)).trans (hset_at _ _ _)
   generalize (hset (hset H3 n3 (.cells [.int .i64 (-s - 1)] 3 true)) (n3 + 1) (.cells [.slice (some ⟨n3, 0, none⟩) 1 1] 26 true)) = H4 at *
   have hw4 := kl.wf hw3
   have hgw : GW [-s - 1] := ⟨by simp, fun t ht => by rw [List.mem_singleton] at ht; omega⟩
   have hgs : WS H4 (some ⟨n3 + 1, 0, none⟩) [([-s - 1], some ⟨n3, 0, none⟩)] := ws_at l1 fun x hx => by
    rw [List.mem_singleton] at hx
    rw [hx]; exact wd_own l2
   refine AtCall.by (times02_gives (k := 2) (Y := [([-s - 1], some ⟨n3, 0, none⟩)]) hw4 (hZ.mono hw3 kl).ws hgs (by omega) (by simp) hZ.wl (fun x hx => by rw [List.mem_singleton] at hx; rw [hx]; simp) (by omega)) ?_
   rintro _ n5 H5 k5 ⟨p4, W, rfl, hW, hT2⟩
   simp only [SS, qx35, vun, simprocAttr, ff_54]
   repeat (first | refine qqm rfl ?_ | ((first | refine qqr ?_ | refine qqt ?_); simp only [SS, qx35, vun, simprocAttr, f8, hjw, ff_54]))
   refine ih (form.length - (j + 1)) (by omega) _ ?_
   refine ⟨j + 1, p4, W, k3.trans (kl.trans k5), good_tms hZ.gw (fun c hc => by simp at hc; rw [hc]; exact hgw) hW hT2, fun c => ?_, f3, f1, f2, rfl, rfl, hlt, rfl⟩
   rw [hT2.mem, hfp]
   unfold tms symP
   simp only [h0, if_false, ↓reduceIte]
   constructor
   ·rintro ⟨a, ha, b, hb, h⟩
    exact ⟨a, (hZm a).1 ha, b, by simpa using hb, h⟩
   ·rintro ⟨a, ha, b, hb, h⟩
    exact ⟨a, (hZm a).2 ha, b, by simpa using hb, h⟩
 ·obtain rfl : j = form.length := by omega
  rw [List.take_length] at hZm
  repeat (first | refine qqm rfl ?_ | ((first | refine qqr ?_ | refine qqt ?_); simp only [SS, qx35, vun, simprocAttr, f1, f2, f3, f7, f8, hlt, hb3, ff_54]))
  refine AtCall.by (times02_gives (k := 2) hw3 hZ.ws (hT.mono hw k13).ws (by omega) (by have := hT.len; omega) hZ.wl hT.wl (by omega)) ?_
  rintro _ n4 H4 k4 ⟨p4, W, rfl, hW, hT2⟩
  simp only [SS, qx35, vun, simprocAttr, ff_54]
  repeat (first | refine qqm rfl ?_ | ((first | refine qqr ?_ | refine qqt ?_); simp only [SS, qx35, vun, simprocAttr, ff_54]))
  first | refine qqf ?_ ?_ | refine qqg ?_ ?_
  ·exact (k13.trans k4).keep
  ·simp only [packed, qv, Nat.reduceEqDiff, ↓reduceIte, ff_54]
   refine ⟨p4, W, rfl, good_tms hZ.gw hT.gw hW hT2, fun c => ?_⟩
   rw [hT2.mem]
   unfold aheadP tms
   constructor
   ·rintro ⟨a, ha, b, hb, h⟩
    exact ⟨a, (hZm a).1 ha, b, hb, h⟩
   ·rintro ⟨a, ha, b, hb, h⟩
    exact ⟨a, (hZm a).2 ha, b, hb, h⟩
end Go.Proofs.Ytfbdababcdfjfaa
