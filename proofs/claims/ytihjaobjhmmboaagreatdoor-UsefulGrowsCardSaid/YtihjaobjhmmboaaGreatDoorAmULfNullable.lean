/- A part of a proof. Its conditions: none. -/
import Derived.Test.YtihjaobjhmmboaaGreatDoorAmUFacts
import Derived.Test.YtihjaobjhmmboaaGreatDoorAmC
import Derived.Test.YtihjaobjhmmboaaGreatDoorAmD
import Derived.Test.YtihjaobjhmmboaaGreatDoorAmUGRight
set_option linter.all false
namespace Go.Proofs.YtihjaobjhmmboaaGreatDoor
open Go.AM
set_option maxRecDepth 100000
theorem count_set_lt {hs : List Bool} {i : Nat} (hi : i < hs.length) (h : hs[i] = false) : (hs.set i true).count false < hs.count false := by
 have h1 : 0 < hs.count false := List.count_pos_iff.2 (h ▸ List.getElem_mem hi)
 rw [List.count_set hi, h]
 simp
 omega
set_option maxHeartbeats 4000000 in
theorem fix_gives {v : Value} {g : Gram} {n0 n : Nat} {H0 H : Heap} {x F : Nat} {hs : List Bool} {captured : List Value} (rb : GRule → List Bool → Bool) (hw0 : WF n0 H0) (hg : RG H0 v g) (wg : WG g) (k0 : Kp n0 H0 n H) (hx0 : n0 ≤ x)
  (hlen : hs.length ≤ maxL) (hx : H x = .cells (hs.map .bool) 4 true) (hxn : x < n) (hleft : ∀ r ∈ g.rules, 0 ≤ r.left ∧ r.left < hs.length)
  (hrule : ∀ n1 H1 (hs1 : List Bool), WF n1 H1 → Kx (fun z => z = x) n H n1 H1 → hs1.length = hs.length → H1 x = .cells (hs1.map .bool) 4 true → ∀ r ∈ g.rules, ∀ p, RA (Value.int .i64) H1 p r.right →
   Gives Tryz.prog F (.agg #[.int .i64 r.left, .slice p r.right.length r.right.length, .float .f64 r.weight] :: captured) n1 H1 fun v _ _ => v = .bool (rb r hs1)) :
  GivesX Tryz.prog (fun z => z = x) 40 [v, .slice (some ⟨x, 0, none⟩) hs.length hs.length, .func (.func F) #[] captured.toArray] n H fun v n' H' => v = .slice (some ⟨x, 0, none⟩) hs.length hs.length ∧ ∃ hs', H' x = .cells (hs'.map .bool) 4 true ∧ hs'.length = hs.length ∧
   Der rb g.rules hs hs' ∧ ∀ r ∈ g.rules, hs'.getD r.left.toNat false = true ∨ rb r hs' = false := by
 have hg' := hg
 obtain ⟨pt, pv, pr, rfl, ht, hv, hr⟩ := hg
 refine GivesX.of orders ok40 (Nat.le_of_ble_eq_true rfl) ?_
 have hk := Kp.new n H (.cells (gcells pt pv pr g) 25 true)
 have hb := hset_at H n (.cells (gcells pt pv pr g) 25 true)
 have wr := wg.rules
 unfold maxL at hlen wr
 repeat refine qqn rfl ?_
 (refine qqr ?_; simp only [SS, qx4, vun, simprocAttr, box_cells, box_one, ff_40])
 replace hx := (hk.keep x hxn).trans hx
 generalize hset H n (.cells (gcells pt pv pr g) 25 true) = H1 at *
 repeat (first | refine qqm rfl ?_ | ((first | refine qqr ?_ | refine qqt ?_); simp only [SS, qx4, vun, simprocAttr, hb, ff_40]))
 refine WK.loop (fun k s => ∃ (b : Bool) (hs1 : List Bool), Kx (fun z => z = x) (n + 1) H1 s.n s.H ∧ s.f 1 = .slice (some ⟨x, 0, none⟩) hs.length hs.length ∧ s.f 2 = .func (.func F) #[] captured.toArray ∧ s.f 3 = .pointer (some ⟨n, 0, none⟩) ∧ s.f 7 = .bool b ∧
  s.H x = .cells (hs1.map .bool) 4 true ∧ hs1.length = hs.length ∧ Der rb g.rules hs hs1 ∧ (b = false → ∀ r ∈ g.rules, hs1.getD r.left.toNat false = true ∨ rb r hs1 = false) ∧ k = hs1.count false + (if b then 1 else 0)) (hs.count false + 1) ?_ ?_
 ·exact ⟨true, hs, Kx.refl _ _ _, rfl, rfl, rfl, rfl, hx, rfl, .refl, (fun h => by cases h), rfl⟩
 rintro kk ⟨f, n2, H2⟩ ⟨b, hs1, kx, f1, f2, f3, f7, hx2, hl1, hd, hc, rfl⟩ ih
 simp only at f1 f2 f3 f7 ih kx hx2
 have hnx : n ≠ x := by omega
 cases b
 ·repeat (first | refine qqm rfl ?_ | ((first | refine qqr ?_ | refine qqt ?_); simp only [SS, qx4, vun, simprocAttr, f1, f7, ff_40]))
  repeat refine qqn rfl ?_
  refine WK.retNil ⟨Or.inr rfl, _, rfl, fun y hy hyx => ?_, ?_⟩
  ·exact (kx.keep y (by omega) hyx).trans (hk.keep y hy)
  ·simp only [packed, qv, Nat.reduceEqDiff, ↓reduceIte, f1, ff_40]
   exact ⟨trivial, hs1, hx2, hl1, hd, hc rfl⟩
 ·have hb2 := (kx.keep n (by omega) hnx).trans hb
  repeat (first | refine qqm rfl ?_ | ((first | refine qqr ?_ | refine qqt ?_); simp only [SS, qx4, vun, simprocAttr, f1, f7, f3, hb2, gc_2, ff_40]))
  have hle2 := kx.le
  refine WK.loop (fun k s => ∃ (j : Nat) (b : Bool) (hs2 : List Bool), Kx (fun z => z = x) (n + 1) H1 s.n s.H ∧ s.f 1 = .slice (some ⟨x, 0, none⟩) hs.length hs.length ∧ s.f 2 = .func (.func F) #[] captured.toArray ∧ s.f 3 = .pointer (some ⟨n, 0, none⟩) ∧ s.f 7 = .bool b ∧
   s.f 12 = .slice pr g.rules.length g.rules.length ∧ s.f 13 = .int .i64 g.rules.length ∧ s.f 14 = .int .i64 (j : Nat) ∧ j ≤ g.rules.length ∧
   s.H x = .cells (hs2.map .bool) 4 true ∧ hs2.length = hs.length ∧ Der rb g.rules hs hs2 ∧ (b = false → hs2 = hs1 ∧ ∀ (i : Nat) (h : i < g.rules.length), i < j → hs2.getD g.rules[i].left.toNat false = true ∨ rb g.rules[i] hs2 = false) ∧ (b = true → hs2.count false < hs1.count false) ∧ k = g.rules.length - j) g.rules.length ?_ ?_
  ·exact ⟨0, false, hs1, kx, f1, f2, f3, rfl, rfl, rfl, rfl, Nat.zero_le _, hx2, hl1, hd, (fun _ => ⟨rfl, fun i h hi => by omega⟩), (fun h => by cases h), rfl⟩
  rintro kk ⟨f', n3, H3⟩ ⟨j, b, hs2, kx3, g1, g2, g3, g7, g12, g13, g14, hj, hx3, hl3, hd3, hc3, hc4, rfl⟩ ih2
  simp only at g1 g2 g3 g7 g12 g13 g14 ih2 kx3 hx3
  by_cases hjr : j < g.rules.length
  ·have kk3 : Kp n0 H0 n3 H3 := ⟨by have := kx3.le; have := k0.le; omega, fun y hy => ((kx3.keep y (by have := k0.le; omega) (by omega)).trans (hk.keep y (by have := k0.le; omega))).trans (k0.keep y hy), fun h => kx3.wf (hk.wf (k0.wf h))⟩
   have hr3 := hr.mono hw0 kk3
   have hw3 := kk3.wf hw0
   obtain ⟨z, k, cs, ty, own, p, e0, hz, c0, c1, c2, hp⟩ := hr3.at hjr
   have c3 := take3 c0 c1 c2
   have c4 := len3 c2
   have hzn : z < n3 := by
    apply Classical.byContradiction
    intro hc'
    rw [hw3 z (by omega)] at hz; cases hz
   subst e0
   have hm := List.getElem_mem hjr
   obtain ⟨l, hl⟩ : ∃ l : Nat, g.rules[j].left = l := ⟨g.rules[j].left.toNat, by have := (hleft _ hm).1; omega⟩
   have hll : l < hs.length := by have := (hleft _ hm).2; omega
   have hll2 : l < hs2.length := by omega
   have hxn3 : x ≠ n3 := by have := kx3.le; omega
   have hH : ∀ o, hset H3 n3 o x = .cells (hs2.map .bool) 4 true := fun o => (hset_ne _ _ _ hxn3).trans hx3
   have hget : (hs2.map Value.bool)[l]? = some (.bool hs2[l]) := by rw [List.getElem?_map, List.getElem?_eq_getElem hll2]; rfl
   have hgl : hs2.getD l false = hs2[l] := by rw [List.getD_eq_getElem?_getD, List.getElem?_eq_getElem hll2]; rfl
   have kn := Kp.new n3 H3 (.cells [.int .i64 (l : Nat), .slice p g.rules[j].right.length g.rules[j].right.length, .float .f64 g.rules[j].weight] 44 true)
   cases hbv : hs2[l]
   ·rw [hbv] at hget hgl
    repeat (first | refine qqm rfl ?_ | ((first | refine qqr ?_ | refine qqt ?_); simp only [SS, qx4, vun, simprocAttr, g1, g2, g12, g13, g14, hjr, hz, c3, c4, hl, hll, hH, hget, hset_hset, List.nil_append, List.cons_append, ff_40]))
    have hr' := hrule (n3 + 1) _ hs2 (kn.wf hw3) ((hk.kx.trans kx3).trans kn.kx) hl3 (hH _) _ hm p (hp.mono hw3 kn)
    rw [hl] at hr'
    refine AtCall.by hr' ?_
    rintro v n4 H4 hk4 rfl
    have hH4 : H4 x = .cells (hs2.map .bool) 4 true := (hk4.keep x (by have := kx3.le; omega)).trans (hH _)
    have hN4 := (hk4.keep n3 (by omega)).trans (hset_at _ _ _)
    have kx4 := (kx3.trans kn.kx).trans hk4.kx
    cases hrb : rb g.rules[j] hs2
    ·simp only [SS, qx4, vun, simprocAttr, ff_40]
     repeat (first | refine qqm rfl ?_ | ((first | refine qqr ?_ | refine qqt ?_); simp only [SS, qx4, vun, simprocAttr, g14, ff_40]))
     refine ih2 (g.rules.length - (j + 1)) (by omega) _ ⟨j + 1, b, hs2, kx4, g1, g2, g3, g7, g12, g13, ?_, hjr, hH4, hl3, hd3, (fun h => ⟨(hc3 h).1, fun i hi hij => ?_⟩), hc4, rfl⟩
     ·simp only [packed, qv, Nat.reduceEqDiff, ↓reduceIte, g14, ff_40]
      rw [wrap_in (by omega) (by omega)]; rfl
     ·rcases Nat.lt_or_ge i j with h1 | h1
      ·exact (hc3 h).2 i hi h1
      ·have : i = j := by omega
       subst this
       exact .inr hrb
    ·simp only [SS, qx4, vun, simprocAttr, ff_40]
     have hll' : l + 1 ≤ hs.length := hll
     have hset' : (hs2.map Value.bool).set l (.bool true) = (hs2.set l true).map .bool := by rw [List.map_set]
     repeat (first | refine qqm rfl ?_ | ((first | refine qqr ?_ | refine qqt ?_); simp only [SS, qx4, vun, simprocAttr, g1, g14, hH4, hN4, hl, hll, hll', hset', List.length_map, hl3, ff_40]))
     refine ih2 (g.rules.length - (j + 1)) (by omega) _ ⟨j + 1, true, hs2.set l true, ?_, g1, g2, g3, rfl, g12, g13, ?_, hjr, hset_at _ _ _, by rw [List.length_set, hl3], ?_, (fun h => by cases h), (fun _ => ?_), rfl⟩
     ·exact kx4.set _ (.inl rfl) (by have := kx4.le; omega)
     ·simp only [packed, qv, Nat.reduceEqDiff, ↓reduceIte, g14, ff_40]
      rw [wrap_in (by omega) (by omega)]; rfl
     ·have := hd3.step _ hm hrb
      rw [hl] at this; exact this
     ·have := count_set_lt hll2 hbv
      cases b
      ·rw [(hc3 rfl).1] at this ⊢; exact this
      ·have := hc4 rfl; omega
   ·rw [hbv] at hget hgl
    repeat (first | refine qqm rfl ?_ | ((first | refine qqr ?_ | refine qqt ?_); simp only [SS, qx4, vun, simprocAttr, g1, g2, g12, g13, g14, hjr, hz, c3, c4, hl, hll, hH, hget, hset_hset, ff_40]))
    refine ih2 (g.rules.length - (j + 1)) (by omega) _ ⟨j + 1, b, hs2, kx3.trans kn.kx, g1, g2, g3, g7, g12, g13, ?_, hjr, hH _, hl3, hd3, (fun h => ⟨(hc3 h).1, fun i hi hij => ?_⟩), hc4, rfl⟩
    ·simp only [packed, qv, Nat.reduceEqDiff, ↓reduceIte, g14, ff_40]
     rw [wrap_in (by omega) (by omega)]; rfl
    ·rcases Nat.lt_or_ge i j with h1 | h1
     ·exact (hc3 h).2 i hi h1
     ·have : i = j := by omega
      subst this
      rw [hl]; exact .inl hgl
  ·repeat (first | refine qqm rfl ?_ | ((first | refine qqr ?_ | refine qqt ?_); simp only [SS, qx4, vun, simprocAttr, g12, g13, g14, hjr, ff_40]))
   refine ih _ ?_ _ ⟨b, hs2, kx3, g1, g2, g3, g7, hx3, hl3, hd3, (fun h r hr => ?_), rfl⟩
   ·cases b
    ·rw [(hc3 rfl).1]; simp
    ·have := hc4 rfl; simp; omega
   ·obtain ⟨i, hi, rfl⟩ := List.getElem_of_mem hr
    exact (hc3 h).2 i hi (by omega)
end Go.Proofs.YtihjaobjhmmboaaGreatDoor

namespace Go.Proofs.YtihjaobjhmmboaaGreatDoor
open Go.AM
set_option maxRecDepth 100000
theorem nul1_gives {l : Int} {right : List Int} {wt : Nat} {p : Option Addr} {y x n : Nat} {H : Heap} {hs : List Bool} (hw : WF n H) (hp : RA (Value.int .i64) H p right)
  (hy : H y = .cells [.slice (some ⟨x, 0, none⟩) hs.length hs.length] 34 true) (hx : H x = .cells (hs.map .bool) 4 true) (hl : right.length ≤ maxL) (hr : ∀ s ∈ right, s < hs.length) :
  Gives Tryz.prog 43 [.agg #[.int .i64 l, .slice p right.length right.length, .float .f64 wt], .pointer (some ⟨y, 0, none⟩)] n H fun v _ _ => v = .bool (nulB right hs) := by
 refine Gives.of orders ok43 (Nat.le_of_ble_eq_true rfl) ?_
 have hk := Kp.new n H (.cells [.int .i64 l, .slice p right.length right.length, .float .f64 wt] 44 true)
 have hb := hset_at H n (.cells [.int .i64 l, .slice p right.length right.length, .float .f64 wt] 44 true)
 have low : ∀ {z cs ty own}, H z = .cells cs ty own → z < n := fun {z cs ty own} e => by
  apply Classical.byContradiction
  intro hc
  rw [hw z (by omega)] at e; cases e
 replace hp := hp.mono hw hk
 replace hy := (hk.keep y (low hy)).trans hy
 replace hx := (hk.keep x (low hx)).trans hx
 repeat refine qqn rfl ?_
 (refine qqr ?_; simp only [SS, qx0, vun, simprocAttr, ff_43])
 repeat refine qqn rfl ?_
 generalize hset H n (.cells [.int .i64 l, .slice p right.length right.length, .float .f64 wt] 44 true) = H1 at *
 repeat (first | refine qqm rfl ?_ | ((first | refine qqr ?_ | refine qqt ?_); simp only [SS, qx0, vun, simprocAttr, hb, ff_43]))
 unfold maxL at hl
 refine WK.loop (fun k s => ∃ j, s.n = n + 1 ∧ s.H = H1 ∧ s.f 1 = .pointer (some ⟨y, 0, none⟩) ∧ s.f 7 = .slice p right.length right.length ∧ s.f 8 = .int .i64 (right.length : Nat) ∧ s.f 9 = .int .i64 (j : Nat) ∧ j ≤ right.length ∧ k = right.length - j ∧ nulB (right.take j) hs = true) right.length ?_ ?_
 ·exact ⟨0, rfl, rfl, rfl, rfl, rfl, rfl, Nat.zero_le _, rfl, rfl⟩
 rintro kk ⟨f, n', H'⟩ ⟨j, rfl, rfl, f1, f7, f8, f9, hj, rfl, hn⟩ ih
 simp only at f1 f7 f8 f9 ih hb hp hx hy hk
 by_cases hjr : j < right.length
 ·obtain ⟨z, kz, ds, tz, oz, rfl, hz, e⟩ := hp.at hjr
  have htj : right.take (j + 1) = right.take j ++ [right[j]] := List.take_succ_eq_append_getElem hjr
  have hlt := hr _ (List.getElem_mem hjr)
  repeat (first | refine qqm rfl ?_ | ((first | refine qqr ?_ | refine qqt ?_); simp only [SS, qx0, vun, simprocAttr, f1, f7, f8, f9, hjr, hz, e, ff_43]))
  refine AtCall.by (isVar_gives _ _ _) ?_
  rintro v n2 H2 hk2 ⟨rfl, rfl, rfl⟩
  by_cases h0 : 0 ≤ right[j]
  ·obtain ⟨s, hs'⟩ : ∃ s : Nat, right[j] = s := ⟨right[j].toNat, by omega⟩
   have hsl : s < hs.length := by omega
   have hg : (hs.map Value.bool)[s]? = some (.bool hs[s]) := by rw [List.getElem?_map, List.getElem?_eq_getElem hsl]; rfl
   cases hb2 : hs[s]
   ·rw [hb2] at hg
    simp only [SS, qx0, vun, simprocAttr, f1, f7, f8, f9, hjr, hs', h0, hy, hx, hsl, hg, ff_43]
    repeat (first | refine qqm rfl ?_ | ((first | refine qqr ?_ | refine qqt ?_); simp only [SS, qx0, vun, simprocAttr, f1, f7, f8, f9, ff_43]))
    first | refine qqf ?_ ?_ | refine qqg ?_ ?_
    ·exact hk.keep
    ·simp only [packed, qv, Nat.reduceEqDiff, ↓reduceIte, ff_43]
     have : nulB right hs = false := by
      unfold nulB
      rw [List.all_eq_false]
      exact ⟨right[j], List.getElem_mem hjr, by rw [hs']; simp [hsl, hb2]⟩
     rw [this]
   ·rw [hb2] at hg
    simp only [SS, qx0, vun, simprocAttr, f1, f7, f8, f9, hjr, hs', h0, hy, hx, hsl, hg, ff_43]
    repeat (first | refine qqm rfl ?_ | ((first | refine qqr ?_ | refine qqt ?_); simp only [SS, qx0, vun, simprocAttr, f1, f7, f8, f9, ff_43]))
    refine ih (right.length - (j + 1)) (by omega) _ ⟨j + 1, rfl, rfl, f1, f7, f8, ?_, hjr, rfl, ?_⟩
    ·simp only [packed, qv, Nat.reduceEqDiff, ↓reduceIte, f9, ff_43]
     rw [wrap_in (by omega) (by omega)]; rfl
    ·rw [htj]
     unfold nulB at hn ⊢
     rw [List.all_append, hn, hs']
     simp [hsl, hb2]
  ·simp only [SS, qx0, vun, simprocAttr, f1, f7, f8, f9, hjr, h0, ff_43]
   repeat (first | refine qqm rfl ?_ | ((first | refine qqr ?_ | refine qqt ?_); simp only [SS, qx0, vun, simprocAttr, f1, f7, f8, f9, ff_43]))
   first | refine qqf ?_ ?_ | refine qqg ?_ ?_
   ·exact hk.keep
   ·simp only [packed, qv, Nat.reduceEqDiff, ↓reduceIte, ff_43]
    have : nulB right hs = false := by
     unfold nulB
     rw [List.all_eq_false]
     exact ⟨right[j], List.getElem_mem hjr, by simp [h0]⟩
    rw [this]
 ·repeat (first | refine qqm rfl ?_ | ((first | refine qqr ?_ | refine qqt ?_); simp only [SS, qx0, vun, simprocAttr, f1, f7, f8, f9, hjr, ff_43]))
  first | refine qqf ?_ ?_ | refine qqg ?_ ?_
  ·exact hk.keep
  ·simp only [packed, qv, Nat.reduceEqDiff, ↓reduceIte, ff_43]
   rw [List.take_of_length_le (by omega)] at hn
   rw [hn]
end Go.Proofs.YtihjaobjhmmboaaGreatDoor

namespace Go.Proofs.YtihjaobjhmmboaaGreatDoor
open Go.AM
set_option maxRecDepth 100000
theorem RightOK.inG {g : Gram} (h : RightOK g) : InG g := by
 refine ⟨fun r hr => ?_, fun r hr => ?_, fun r hr s hs => ?_, fun r hr s hs => ?_⟩ <;> obtain ⟨i, hi, rfl⟩ := List.getElem_of_mem hr
 ·exact (h.rule i hi).left0
 ·exact (h.rule i hi).left1
 ·exact ((h.rule i hi).sym s hs).1
 ·exact ((h.rule i hi).sym s hs).2
theorem rep_map (l : Nat) : rep l [Value.bool false] = (List.replicate l false).map .bool := by
 induction l with
 | zero => rfl
 | succ l ih => rw [List.replicate_succ, List.map_cons, ← ih]; rfl
set_option maxHeartbeats 4000000 in
theorem nullable_gives {v : Value} {g : Gram} {n : Nat} {H : Heap} (hw : WF n H) (hg : RG H v g) (wg : WG g) (ok : RightOK g) :
  Gives Tryz.prog 17 [v] n H fun v n' H' => ∃ (hs : List Bool) (x : Nat), n ≤ x ∧ x < n' ∧ v = .slice (some ⟨x, 0, none⟩) g.vars.length g.vars.length ∧ hs.length = g.vars.length ∧ H' x = .cells (hs.map .bool) 4 true ∧ ∀ v, hold hs v ↔ Nul g v := by
 have hg0 := hg
 obtain ⟨pt, pv, pr, rfl, ht, hv, hr⟩ := hg
 refine Gives.of orders ok17 (Nat.le_of_ble_eq_true rfl) ?_
 have hk := Kp.new n H (.cells (gcells pt pv pr g) 25 true)
 have hb := hset_at H n (.cells (gcells pt pv pr g) 25 true)
 have hi := ok.inG
 have hvl : (g.vars.length : Int) ≤ bigN := by have := ok.vars; unfold bigN; omega
 repeat refine qqn rfl ?_
 (refine qqr ?_; simp only [SS, qx22, simprocAttr, box_cells, box_one, ff_17])
 generalize hset H n (.cells (gcells pt pv pr g) 25 true) = H1 at *
 repeat refine qqn rfl ?_
 (refine qqr ?_; simp only [SS, qx22, simprocAttr, hb, gc_0, gc_1, gc_2, hvl, ff_17])
 repeat refine qqn rfl ?_
 have k1 := (Kp.new (n + 1) H1 (.cells (rep g.vars.length [.bool false]) 4 true)).trans (Kp.new (n + 1 + 1) _ (.cells [.slice (some ⟨n + 1, 0, none⟩) g.vars.length g.vars.length] 34 true))
 have b0 := (k1.keep n (by omega)).trans hb
 have b1 : (hset (hset H1 (n + 1) (.cells (rep g.vars.length [.bool false]) 4 true)) (n + 1 + 1) (.cells [.slice (some ⟨n + 1, 0, none⟩) g.vars.length g.vars.length] 34 true)) (n + 1) = _ := (hset_ne _ _ _ (by omega)).trans (hset_at _ _ _)
 have b2 : (hset (hset H1 (n + 1) (.cells (rep g.vars.length [.bool false]) 4 true)) (n + 1 + 1) (.cells [.slice (some ⟨n + 1, 0, none⟩) g.vars.length g.vars.length] 34 true)) (n + 1 + 1) = _ := hset_at _ _ _
 generalize hset (hset H1 (n + 1) (.cells (rep g.vars.length [.bool false]) 4 true)) (n + 1 + 1) (.cells [.slice (some ⟨n + 1, 0, none⟩) g.vars.length g.vars.length] 34 true) = H2 at *
 rw [rep_map] at b1
 (refine qqr ?_; simp only [SS, qx22, simprocAttr, b0, b1, b2, gc_len, gc_all, ff_17])
 have kk := hk.trans k1
 have hf := fix_gives (F := 43) (captured := [.pointer (some ⟨n + 1 + 1, 0, none⟩)]) (fun r => nulB r.right) hw hg0 wg kk (x := n + 1) (by omega) (hs := List.replicate g.vars.length false) (by rw [List.length_replicate]; exact wg.vars) b1 (by omega)
  (fun r hr => ⟨hi.left0 r hr, by rw [List.length_replicate]; exact hi.left1 r hr⟩) (fun n3 H3 hs1 hw3 kx hl hx r hr p hp => by
   have hy := (kx.keep (n + 1 + 1) (by omega) (by omega)).trans b2
   rw [List.length_replicate] at hl
   rw [← hl] at hy
   exact nul1_gives hw3 hp hy hx (wg.right r hr).1 (fun s hs => by rw [hl]; exact hi.right r hr s hs))
 rw [List.length_replicate] at hf
 refine AtCall.byX hf ?_
 rintro v n3 H3 kx ⟨rfl, hs, hx, hl, hd, hc⟩
 simp only [SS, qx22, simprocAttr, ff_17]
 repeat (first | refine qqm rfl ?_ | ((first | refine qqr ?_ | refine qqt ?_); simp only [SS, qx22, simprocAttr, ff_17]))
 first | refine qqf ?_ ?_ | refine qqg ?_ ?_
 ·exact fun y hy => (kx.keep y (by omega) (by omega)).trans (kk.keep y hy)
 ·simp only [packed, qv, Nat.reduceEqDiff, ↓reduceIte, ff_17]
  have := kx.le
  refine ⟨hs, n + 1, by omega, by show n + 1 < n3; omega, rfl, by rw [hl], hx, fun v => ⟨der_nul hi hd v, closed_nul hi hc v⟩⟩
end Go.Proofs.YtihjaobjhmmboaaGreatDoor
