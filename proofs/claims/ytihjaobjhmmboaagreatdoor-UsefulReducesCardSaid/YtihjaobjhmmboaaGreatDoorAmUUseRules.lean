/- A part of a proof. Its conditions: none. -/
import Derived.Test.YtihjaobjhmmboaaGreatDoorAmULfNullable
import Derived.Test.YtihjaobjhmmboaaGreatDoorAmD
set_option linter.all false
namespace Go.Proofs.YtihjaobjhmmboaaGreatDoor
open Go.AM
set_option maxRecDepth 100000
theorem prd1_gives {l : Int} {right : List Int} {wt : Nat} {p : Option Addr} {y x n : Nat} {H : Heap} {hs : List Bool} (hw : WF n H) (hp : RA (Value.int .i64) H p right)
  (hy : H y = .cells [.slice (some ⟨x, 0, none⟩) hs.length hs.length] 34 true) (hx : H x = .cells (hs.map .bool) 4 true) (hl : right.length ≤ maxL) (hr : ∀ s ∈ right, s < hs.length) :
  Gives Tryz.prog 41 [.agg #[.int .i64 l, .slice p right.length right.length, .float .f64 wt], .pointer (some ⟨y, 0, none⟩)] n H fun v _ _ => v = .bool (prdB right hs) := by
 refine Gives.of orders ok41 (Nat.le_of_ble_eq_true rfl) ?_
 have hk := Kp.new n H (.cells [.int .i64 l, .slice p right.length right.length, .float .f64 wt] 44 true)
 have hb := hset_at H n (.cells [.int .i64 l, .slice p right.length right.length, .float .f64 wt] 44 true)
 have low : ∀ {z cs ty own}, H z = .cells cs ty own → z < n := fun {z cs ty own} e => by
  apply Classical.byContradiction
  intro hc
  rw [hw z (by omega)] at e; cases e
 replace hp := hp.mono hw hk
 replace hy := (hk.keep y (low hy)).trans hy
 replace hx := (hk.keep x (low hx)).trans hx
 repeat refine qqn rfl ?_
 (refine qqr ?_; simp only [SS, qx0, vun, simprocAttr, ff_41])
 repeat refine qqn rfl ?_
 generalize hset H n (.cells [.int .i64 l, .slice p right.length right.length, .float .f64 wt] 44 true) = H1 at *
 repeat (first | refine qqm rfl ?_ | ((first | refine qqr ?_ | refine qqt ?_); simp only [SS, qx0, vun, simprocAttr, hb, ff_41]))
 unfold maxL at hl
 refine WK.loop (fun k s => ∃ j, s.n = n + 1 ∧ s.H = H1 ∧ s.f 1 = .pointer (some ⟨y, 0, none⟩) ∧ s.f 7 = .slice p right.length right.length ∧ s.f 8 = .int .i64 (right.length : Nat) ∧ s.f 9 = .int .i64 (j : Nat) ∧ j ≤ right.length ∧ k = right.length - j ∧ prdB (right.take j) hs = true) right.length ?_ ?_
 ·exact ⟨0, rfl, rfl, rfl, rfl, rfl, rfl, Nat.zero_le _, rfl, rfl⟩
 rintro kk ⟨f, n', H'⟩ ⟨j, rfl, rfl, f1, f7, f8, f9, hj, rfl, hn⟩ ih
 simp only at f1 f7 f8 f9 ih hb hp hx hy hk
 by_cases hjr : j < right.length
 ·obtain ⟨z, kz, ds, tz, oz, rfl, hz, e⟩ := hp.at hjr
  have htj : right.take (j + 1) = right.take j ++ [right[j]] := List.take_succ_eq_append_getElem hjr
  have hlt := hr _ (List.getElem_mem hjr)
  repeat (first | refine qqm rfl ?_ | ((first | refine qqr ?_ | refine qqt ?_); simp only [SS, qx0, vun, simprocAttr, f1, f7, f8, f9, hjr, hz, e, ff_41]))
  refine AtCall.by (isVar_gives _ _ _) ?_
  rintro v n2 H2 hk2 ⟨rfl, rfl, rfl⟩
  by_cases h0 : 0 ≤ right[j]
  ·obtain ⟨s, hs'⟩ : ∃ s : Nat, right[j] = s := ⟨right[j].toNat, by omega⟩
   have hsl : s < hs.length := by omega
   have hg : (hs.map Value.bool)[s]? = some (.bool hs[s]) := by rw [List.getElem?_map, List.getElem?_eq_getElem hsl]; rfl
   cases hb2 : hs[s]
   ·rw [hb2] at hg
    simp only [SS, qx0, vun, simprocAttr, f1, f7, f8, f9, hjr, hs', h0, hy, hx, hsl, hg, ff_41]
    repeat (first | refine qqm rfl ?_ | ((first | refine qqr ?_ | refine qqt ?_); simp only [SS, qx0, vun, simprocAttr, f1, f7, f8, f9, ff_41]))
    first | refine qqf ?_ ?_ | refine qqg ?_ ?_
    ·exact hk.keep
    ·simp only [packed, qv, Nat.reduceEqDiff, ↓reduceIte, ff_41]
     have : prdB right hs = false := by
      unfold prdB
      rw [List.all_eq_false]
      exact ⟨right[j], List.getElem_mem hjr, by rw [hs']; simp [hsl, hb2]⟩
     rw [this]
   ·rw [hb2] at hg
    simp only [SS, qx0, vun, simprocAttr, f1, f7, f8, f9, hjr, hs', h0, hy, hx, hsl, hg, ff_41]
    repeat (first | refine qqm rfl ?_ | ((first | refine qqr ?_ | refine qqt ?_); simp only [SS, qx0, vun, simprocAttr, f1, f7, f8, f9, ff_41]))
    refine ih (right.length - (j + 1)) (by omega) _ ⟨j + 1, rfl, rfl, f1, f7, f8, ?_, hjr, rfl, ?_⟩
    ·simp only [packed, qv, Nat.reduceEqDiff, ↓reduceIte, f9, ff_41]
     rw [wrap_in (by omega) (by omega)]; rfl
    ·rw [htj]
     unfold prdB at hn ⊢
     rw [List.all_append, hn, hs']
     simp [hsl, hb2]
  ·simp only [SS, qx0, vun, simprocAttr, f1, f7, f8, f9, hjr, h0, ff_41]
   repeat (first | refine qqm rfl ?_ | ((first | refine qqr ?_ | refine qqt ?_); simp only [SS, qx0, vun, simprocAttr, f1, f7, f8, f9, ff_41]))
   refine ih (right.length - (j + 1)) (by omega) _ ⟨j + 1, rfl, rfl, f1, f7, f8, ?_, hjr, rfl, ?_⟩
   ·simp only [packed, qv, Nat.reduceEqDiff, ↓reduceIte, f9, ff_41]
    rw [wrap_in (by omega) (by omega)]; rfl
   ·rw [htj]
    unfold prdB at hn ⊢
    rw [List.all_append, hn]
    simp [show right[j] < 0 by omega]
 ·repeat (first | refine qqm rfl ?_ | ((first | refine qqr ?_ | refine qqt ?_); simp only [SS, qx0, vun, simprocAttr, f1, f7, f8, f9, hjr, ff_41]))
  first | refine qqf ?_ ?_ | refine qqg ?_ ?_
  ·exact hk.keep
  ·simp only [packed, qv, Nat.reduceEqDiff, ↓reduceIte, ff_41]
   rw [List.take_of_length_le (by omega)] at hn
   rw [hn]
set_option maxHeartbeats 4000000 in
theorem productive_gives {v : Value} {g : Gram} {n : Nat} {H : Heap} (hw : WF n H) (hg : RG H v g) (wg : WG g) (ok : RightOK g) :
  Gives Tryz.prog 15 [v] n H fun v n' H' => ∃ (hs : List Bool) (x : Nat), n ≤ x ∧ x < n' ∧ v = .slice (some ⟨x, 0, none⟩) g.vars.length g.vars.length ∧ hs.length = g.vars.length ∧ H' x = .cells (hs.map .bool) 4 true ∧ ∀ v, hold hs v ↔ Prd g v := by
 have hg0 := hg
 obtain ⟨pt, pv, pr, rfl, ht, hv, hr⟩ := hg
 refine Gives.of orders ok15 (Nat.le_of_ble_eq_true rfl) ?_
 have hk := Kp.new n H (.cells (gcells pt pv pr g) 25 true)
 have hb := hset_at H n (.cells (gcells pt pv pr g) 25 true)
 have hi := ok.inG
 have hvl : (g.vars.length : Int) ≤ bigN := by have := ok.vars; unfold bigN; omega
 repeat refine qqn rfl ?_
 (refine qqr ?_; simp only [SS, qx26, simprocAttr, box_cells, box_one, ff_15])
 generalize hset H n (.cells (gcells pt pv pr g) 25 true) = H1 at *
 repeat refine qqn rfl ?_
 (refine qqr ?_; simp only [SS, qx26, simprocAttr, hb, gc_0, gc_1, gc_2, hvl, ff_15])
 repeat refine qqn rfl ?_
 have k1 := (Kp.new (n + 1) H1 (.cells (rep g.vars.length [.bool false]) 4 true)).trans (Kp.new (n + 1 + 1) _ (.cells [.slice (some ⟨n + 1, 0, none⟩) g.vars.length g.vars.length] 34 true))
 have b0 := (k1.keep n (by omega)).trans hb
 have b1 : (hset (hset H1 (n + 1) (.cells (rep g.vars.length [.bool false]) 4 true)) (n + 1 + 1) (.cells [.slice (some ⟨n + 1, 0, none⟩) g.vars.length g.vars.length] 34 true)) (n + 1) = _ := (hset_ne _ _ _ (by omega)).trans (hset_at _ _ _)
 have b2 : (hset (hset H1 (n + 1) (.cells (rep g.vars.length [.bool false]) 4 true)) (n + 1 + 1) (.cells [.slice (some ⟨n + 1, 0, none⟩) g.vars.length g.vars.length] 34 true)) (n + 1 + 1) = _ := hset_at _ _ _
 generalize hset (hset H1 (n + 1) (.cells (rep g.vars.length [.bool false]) 4 true)) (n + 1 + 1) (.cells [.slice (some ⟨n + 1, 0, none⟩) g.vars.length g.vars.length] 34 true) = H2 at *
 rw [rep_map] at b1
 (refine qqr ?_; simp only [SS, qx26, simprocAttr, b0, b1, b2, gc_len, gc_all, ff_15])
 have kk := hk.trans k1
 have hf := fix_gives (F := 41) (captured := [.pointer (some ⟨n + 1 + 1, 0, none⟩)]) (fun r => prdB r.right) hw hg0 wg kk (x := n + 1) (by omega) (hs := List.replicate g.vars.length false) (by rw [List.length_replicate]; exact wg.vars) b1 (by omega)
  (fun r hr => ⟨hi.left0 r hr, by rw [List.length_replicate]; exact hi.left1 r hr⟩) (fun n3 H3 hs1 hw3 kx hl hx r hr p hp => by
   have hy := (kx.keep (n + 1 + 1) (by omega) (by omega)).trans b2
   rw [List.length_replicate] at hl
   rw [← hl] at hy
   exact prd1_gives hw3 hp hy hx (wg.right r hr).1 (fun s hs => by rw [hl]; exact hi.right r hr s hs))
 rw [List.length_replicate] at hf
 refine AtCall.byX hf ?_
 rintro v n3 H3 kx ⟨rfl, hs, hx, hl, hd, hc⟩
 simp only [SS, qx26, simprocAttr, ff_15]
 repeat (first | refine qqm rfl ?_ | ((first | refine qqr ?_ | refine qqt ?_); simp only [SS, qx26, simprocAttr, ff_15]))
 first | refine qqf ?_ ?_ | refine qqg ?_ ?_
 ·exact fun y hy => (kx.keep y (by omega) (by omega)).trans (kk.keep y hy)
 ·simp only [packed, qv, Nat.reduceEqDiff, ↓reduceIte, ff_15]
  have := kx.le
  refine ⟨hs, n + 1, by omega, by show n + 1 < n3; omega, rfl, by rw [hl], hx, fun v => ⟨der_prd hi hd v, closed_prd hi hc v⟩⟩
end Go.Proofs.YtihjaobjhmmboaaGreatDoor

namespace Go.Proofs.YtihjaobjhmmboaaGreatDoor
open Go.AM
set_option maxRecDepth 100000
theorem half_w {i j : Nat} (h : i + j < 9223372036854775808) : IntKind.i64.wrap ((i : Int) + (j : Int)) = ((i + j : Nat) : Int) := by rw [wrap_in (by omega) (by omega)]; rfl
theorem half_u {i : Nat} (h : i < 9223372036854775808) : IntKind.u64.wrap (i : Int) = (i : Int) := by
 simp only [IntKind.wrap, IntKind.signed, IntKind.bits]
 simp
 omega
theorem half_d (i : Nat) : (i : Int).fdiv (2 ^ (min 1 (IntKind.bits .u64))) = ((i / 2 : Nat) : Int) := by
 have h : min 1 (IntKind.bits .u64) = 1 := rfl
 rw [h, Int.fdiv_eq_ediv_of_nonneg _ (by decide)]
 simp
theorem half_i {i : Nat} (h : i < 9223372036854775808) : IntKind.i64.wrap (i : Int) = (i : Int) := wrap_in (by omega) (by omega)
theorem search_gives {F l n : Nat} {H : Heap} {captured : List Value} (q : Nat → Bool) (hl : l ≤ 4294967296)
  (hF : ∀ i n1 H1, i < l → Kp n H n1 H1 → Gives Tryz.prog F (.int .i64 (i : Nat) :: captured) n1 H1 fun v n' H' => v = .bool (q i) ∧ n' = n1 ∧ H' = H1) :
  Gives Tryz.prog 66 [.int .i64 (l : Nat), .func (.func F) #[] captured.toArray] n H fun v n' H' => ∃ k : Nat, v = .int .i64 (k : Nat) ∧ n' = n ∧ H' = H ∧ k ≤ l ∧ (∀ p, k = p + 1 → q p = false) ∧ (k < l → q k = true) := by
 refine Gives.of orders ok66 (Nat.le_of_ble_eq_true rfl) ?_
 repeat (first | refine qqm rfl ?_ | ((first | refine qqr ?_ | refine qqt ?_); simp only [SS, qx19, vconv, vun, simprocAttr, ff_66]))
 refine WK.loop (fun k s => ∃ i j : Nat, s.n = n ∧ s.H = H ∧ s.f 1 = .func (.func F) #[] captured.toArray ∧ s.f 5 = .int .i64 (i : Nat) ∧ s.f 6 = .int .i64 (j : Nat) ∧ i ≤ j ∧ j ≤ l ∧ (∀ p, i = p + 1 → q p = false) ∧ (j < l → q j = true) ∧ k = j - i) l ?_ ?_
 ·exact ⟨0, l, rfl, rfl, rfl, rfl, rfl, Nat.zero_le _, Nat.le_refl _, (fun p h => by omega), (fun h => absurd h (Nat.lt_irrefl _)), rfl⟩
 rintro kk ⟨f, n', H'⟩ ⟨i, j, rfl, rfl, f1, f5, f6, hij, hjl, hlo, hhi, rfl⟩ ih
 simp only at f1 f5 f6 ih hF
 by_cases h : i < j
 ·have hw := half_w (i := i) (j := j) (by omega)
  have hu := half_u (i := i + j) (by omega)
  have hd := half_d (i + j)
  have hi := half_i (i := (i + j) / 2) (by omega)
  have hm1 : (i + j) / 2 < j := by omega
  have hm2 : i ≤ (i + j) / 2 := by omega
  have hmw : IntKind.i64.wrap ((((i + j) / 2 : Nat) : Int) + 1) = (((i + j) / 2 + 1 : Nat) : Int) := by rw [wrap_in (by omega) (by omega)]; rfl
  generalize (i + j) / 2 = m at *
  repeat (first | refine qqm rfl ?_ | ((first | refine qqr ?_ | refine qqt ?_); simp only [SS, qx19, vconv, vun, simprocAttr, f1, f5, f6, h, hw, hu, hd, hi, List.nil_append, List.cons_append, ff_66]))
  refine AtCall.by (hF m _ _ (by omega) (Kp.refl _ _)) ?_
  rintro v n2 H2 hk2 ⟨rfl, rfl, rfl⟩
  cases hq : q m
  ·simp only [SS, qx19, vconv, vun, simprocAttr, ff_66]
   repeat (first | refine qqm rfl ?_ | ((first | refine qqr ?_ | refine qqt ?_); simp only [SS, qx19, vconv, vun, simprocAttr, hmw, ff_66]))
   refine ih (j - (m + 1)) (by omega) _ ⟨m + 1, j, rfl, rfl, f1, rfl, f6, hm1, hjl, (fun p hp => ?_), hhi, rfl⟩
   have : p = m := by omega
   rw [this]; exact hq
  ·simp only [SS, qx19, vconv, vun, simprocAttr, ff_66]
   repeat (first | refine qqm rfl ?_ | ((first | refine qqr ?_ | refine qqt ?_); simp only [SS, qx19, vconv, vun, simprocAttr, ff_66]))
   refine ih (m - i) (by omega) _ ⟨i, m, rfl, rfl, f1, f5, rfl, hm2, by omega, hlo, (fun _ => hq), rfl⟩
 ·have hij' : i = j := by omega
  subst hij'
  repeat (first | refine qqm rfl ?_ | ((first | refine qqr ?_ | refine qqt ?_); simp only [SS, qx19, vconv, vun, simprocAttr, f1, f5, f6, h, ff_66]))
  first | refine qqf ?_ ?_ | refine qqg ?_ ?_
  ·exact fun _ _ => rfl
  ·simp only [packed, qv, Nat.reduceEqDiff, ↓reduceIte, ff_66]
   exact ⟨i, rfl, trivial, trivial, hjl, hlo, hhi⟩
theorem rules1_gives {pt pv pr : Option Addr} {g : Gram} {v : Int} {i x y n : Nat} {H : Heap} (hr : RR H pr g.rules) (hx : H x = .cells (gcells pt pv pr g) 25 true) (hy : H y = .cells [.int .i64 v] 3 true) (hi : i < g.rules.length) :
  Gives Tryz.prog 67 [.int .i64 (i : Nat), .pointer (some ⟨x, 0, none⟩), .pointer (some ⟨y, 0, none⟩)] n H fun u n' H' => u = .bool (decide (v ≤ (g.rules.map GRule.left).getD i 0)) ∧ n' = n ∧ H' = H := by
 refine Gives.of orders ok67 (Nat.le_of_ble_eq_true rfl) ?_
 obtain ⟨z, k, cs, ty, own, p, rfl, hz, c0, c1, c2, hp⟩ := hr.at hi
 repeat (first | refine qqm rfl ?_ | ((first | refine qqr ?_ | refine qqt ?_); simp only [SS, qg0, qgb, qgl, qgi, qgf, tor, simprocAttr, hx, gc_2, hy, hi, hz, c0, ff_67]))
 first | refine qqf ?_ ?_ | refine qqg ?_ ?_
 ·exact fun _ _ => rfl
 ·simp only [packed, qv, Nat.reduceEqDiff, ↓reduceIte, ff_67]
  simp [hi]
theorem rise_of {l : List GRule} (h : ∀ (i : Nat) (r r' : GRule), l[i + 1]? = some r → l[i]? = some r' → r'.left ≤ r.left) : ∀ (j i : Nat) (hj : j < l.length) (_hi : i ≤ j), (l[i]'(by omega)).left ≤ l[j].left := by
  intro j
  induction j with
  | zero => intro i hj hi; have : i = 0 := by omega
            subst this; exact Int.le_refl _
  | succ j ih =>
    intro i hj hi
    by_cases e : i = j + 1
    · subst e; exact Int.le_refl _
    · exact Int.le_trans (ih i (by omega) (by omega)) (h j _ _ (List.getElem?_eq_getElem hj) (List.getElem?_eq_getElem (show j < l.length by omega)))
theorem RightOK.rise {g : Gram} (ok : RightOK g) {i j : Nat} (hj : j < g.rules.length) (hi : i ≤ j) : (g.rules[i]'(by omega)).left ≤ g.rules[j].left := by
 refine rise_of (fun i r r' h h' => ?_) j i hj hi
 obtain ⟨hl, rfl⟩ := List.getElem?_eq_some_iff.1 h
 exact (ok.rule (i + 1) hl).up i rfl r' h'
set_option maxHeartbeats 4000000 in
theorem rules_gives {gv : Value} {g : Gram} {v : Int} {n : Nat} {H : Heap} (hw : WF n H) (hg : RG H gv g) (ok : RightOK g) :
  Gives Tryz.prog 44 [gv, .int .i64 v] n H fun u _ _ => ∃ a b : Nat, u = .tuple #[.int .i64 (a : Nat), .int .i64 (b : Nat)] ∧ a ≤ b ∧ b ≤ g.rules.length ∧ ∀ (i : Nat) (h : i < g.rules.length), g.rules[i].left = v ↔ a ≤ i ∧ i < b := by
 obtain ⟨pt, pv, pr, rfl, ht, hv, hr⟩ := hg
 refine Gives.of orders ok44 (Nat.le_of_ble_eq_true rfl) ?_
 have hrl := ok.rules
 have hk := (Kp.new n H (.cells (gcells pt pv pr g) 25 true)).trans (Kp.new (n + 1) _ (.cells [.int .i64 v] 3 true))
 have b0 : (hset (hset H n (.cells (gcells pt pv pr g) 25 true)) (n + 1) (.cells [.int .i64 v] 3 true)) n = _ := (hset_ne _ _ _ (by omega)).trans (hset_at _ _ _)
 have b1 : (hset (hset H n (.cells (gcells pt pv pr g) 25 true)) (n + 1) (.cells [.int .i64 v] 3 true)) (n + 1) = _ := hset_at _ _ _
 replace hr := hr.mono hw hk
 repeat refine qqn rfl ?_
 (refine qqr ?_; simp only [SS, qx0, simprocAttr, box_cells, box_one, ff_44])
 generalize hset (hset H n (.cells (gcells pt pv pr g) 25 true)) (n + 1) (.cells [.int .i64 v] 3 true) = H1 at *
 repeat refine qqn rfl ?_
 (refine qqr ?_; simp only [SS, qx0, simprocAttr, b0, gc_2, ff_44])
 have hs := search_gives (F := 67) (l := g.rules.length) (n := n + 1 + 1) (H := H1) (captured := [.pointer (some ⟨n, 0, none⟩), .pointer (some ⟨n + 1, 0, none⟩)]) (fun i => decide (v ≤ (g.rules.map GRule.left).getD i 0)) (by omega)
  (fun i n1 H2 hi k => rules1_gives (hr.mono (hk.wf hw) k) ((k.keep n (by omega)).trans b0) ((k.keep (n + 1) (by omega)).trans b1) hi)
 refine AtCall.by hs ?_
 rintro u n2 H2 k2 ⟨a, rfl, rfl, rfl, hal, hlo, hhi⟩
 simp only [SS, qx0, simprocAttr, ff_44]
 repeat (first | refine qqm rfl ?_ | ((first | refine qqr ?_ | refine qqt ?_); simp only [SS, qx0, simprocAttr, ff_44]))
 have hleft : ∀ i (h : i < g.rules.length), (g.rules.map GRule.left).getD i 0 = g.rules[i].left := fun i h => by simp [h]
 have hbelow : ∀ i (h : i < g.rules.length), i < a → g.rules[i].left < v := by
  intro i h hia
  obtain ⟨p, rfl⟩ : ∃ p, a = p + 1 := ⟨a - 1, by omega⟩
  have h1 := hlo p rfl
  rw [hleft p (by omega), decide_eq_false_iff_not] at h1
  have h2 := ok.rise (i := i) (j := p) (by omega) (by omega)
  omega
 have habove : ∀ i (h : i < g.rules.length), a ≤ i → v ≤ g.rules[i].left := by
  intro i h hai
  have h1 := hhi (by omega)
  rw [hleft a (by omega), decide_eq_true_eq] at h1
  have h2 := ok.rise (i := a) (j := i) h hai
  omega
 refine WK.loop (fun k s => ∃ b : Nat, s.n = n + 1 + 1 ∧ s.H = H2 ∧ s.f 2 = .pointer (some ⟨n, 0, none⟩) ∧ s.f 3 = .pointer (some ⟨n + 1, 0, none⟩) ∧ s.f 6 = .int .i64 (a : Nat) ∧ s.f 7 = .int .i64 (b : Nat) ∧ a ≤ b ∧ b ≤ g.rules.length ∧ (∀ (i : Nat) (h : i < g.rules.length), a ≤ i → i < b → g.rules[i].left = v) ∧ k = g.rules.length - b) (g.rules.length - a) ?_ ?_
 ·exact ⟨a, rfl, rfl, rfl, rfl, rfl, rfl, Nat.le_refl _, hal, (fun i h h1 h2 => by omega), rfl⟩
 rintro kk ⟨f, n', H'⟩ ⟨b, rfl, rfl, f2, f3, f6, f7, hab, hbl, hall, rfl⟩ ih
 simp only at f2 f3 f6 f7 ih b0 b1 hr
 have fini : ∀ i, b ≤ i → (h : i < g.rules.length) → (∀ h : b < g.rules.length, g.rules[b].left ≠ v) → g.rules[i].left ≠ v := by
  intro i hbi h hne e
  have h1 := ok.rise (i := b) (j := i) h hbi
  have h2 := habove b (by omega) hab
  exact hne (by omega) (by omega)
 by_cases hb : b < g.rules.length
 ·have hbw : IntKind.i64.wrap ((b : Int) + 1) = ((b + 1 : Nat) : Int) := by rw [wrap_in (by omega) (by omega)]; rfl
  obtain ⟨z, k, cs, ty, own, p, rfl, hz, c0, c1, c2, hp⟩ := hr.at hb
  by_cases hv' : g.rules[b].left = v
  ·repeat (first | refine qqm rfl ?_ | ((first | refine qqr ?_ | refine qqt ?_); simp only [SS, qx0, simprocAttr, f2, f3, f6, f7, b0, b1, gc_2, hb, hz, c0, hv', ff_44]))
   refine ih (g.rules.length - (b + 1)) (by omega) _ ⟨b + 1, rfl, rfl, f2, f3, f6, ?_, by omega, hb, (fun i h h1 h2 => ?_), rfl⟩
   ·simp only [packed, qv, Nat.reduceEqDiff, ↓reduceIte, f7, hbw, ff_44]
   ·by_cases e : i = b
    ·subst e; exact hv'
    ·exact hall i h h1 (by omega)
  ·repeat (first | refine qqm rfl ?_ | ((first | refine qqr ?_ | refine qqt ?_); simp only [SS, qx0, simprocAttr, f2, f3, f6, f7, b0, b1, gc_2, hb, hz, c0, hv', ff_44]))
   first | refine qqf ?_ ?_ | refine qqg ?_ ?_
   ·exact fun x hx => hk.keep x hx
   ·simp only [packed, qv, Nat.reduceEqDiff, ↓reduceIte, ff_44]
    refine ⟨a, b, rfl, hab, hbl, fun i h => ⟨fun e => ?_, fun ⟨h1, h2⟩ => hall i h h1 h2⟩⟩
    refine ⟨?_, ?_⟩
    ·apply Classical.byContradiction; intro hc; have := hbelow i h (by omega); omega
    ·apply Classical.byContradiction; intro hc; exact fini i (by omega) h (fun _ => hv') e
 ·repeat (first | refine qqm rfl ?_ | ((first | refine qqr ?_ | refine qqt ?_); simp only [SS, qx0, simprocAttr, f2, f3, f6, f7, b0, b1, gc_2, hb, ff_44]))
  first | refine qqf ?_ ?_ | refine qqg ?_ ?_
  ·exact fun x hx => hk.keep x hx
  ·simp only [packed, qv, Nat.reduceEqDiff, ↓reduceIte, ff_44]
   refine ⟨a, b, rfl, hab, hbl, fun i h => ⟨fun e => ?_, fun ⟨h1, h2⟩ => hall i h h1 h2⟩⟩
   refine ⟨?_, by omega⟩
   apply Classical.byContradiction; intro hc; have := hbelow i h (by omega); omega
end Go.Proofs.YtihjaobjhmmboaaGreatDoor
