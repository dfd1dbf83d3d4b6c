/- A part of a proof. Its conditions: none. -/
import Derived.Test.YtihjaobjhmmboaaGreatDoorAmUFacts
import Derived.Test.YtihjaobjhmmboaaGreatDoorAmC
import Derived.Test.YtihjaobjhmmboaaGreatDoorAmD
import Derived.Test.YtihjaobjhmmboaaGreatDoorAmULfPrice
import Derived.Test.YtihjaobjhmmboaaGreatDoorAmULfCostW
set_option linter.all false
namespace Go.Proofs.YtihjaobjhmmboaaGreatDoor
open Go.AM
set_option maxRecDepth 100000
def few (g : Gram) : Bool := decide (g.vars.length ≤ 8) && decide (g.terms.length ≤ 6) && decide (g.rules.length ≤ 24) && g.rules.all fun r => decide (r.right.length ≤ 8)
theorem few_gives {v : Value} {g : Gram} {n : Nat} {H : Heap} (hw : WF n H) (hg : RG H v g) (wg : WG g) :
  Gives Tryz.prog 9 [v] n H fun v _ _ => v = .bool (few g) := by
 obtain ⟨pt, pv, pr, rfl, ht, hv, hr⟩ := hg
 refine Gives.of orders ok9 (Nat.le_of_ble_eq_true rfl) ?_
 have hk := Kp.new n H (.cells (gcells pt pv pr g) 25 true)
 replace hr := hr.mono hw hk
 have hb := hset_at H n (.cells (gcells pt pv pr g) 25 true)
 repeat refine qqn rfl ?_
 (refine qqr ?_; simp only [SS, qx0, simprocAttr, abox, box_cells, box_one, ff_9])
 repeat refine qqn rfl ?_
 generalize hset H n (.cells (gcells pt pv pr g) 25 true) = H1 at *
 by_cases h1 : (8 : Int) < g.vars.length
 ·repeat (first | refine qqm rfl ?_ | ((first | refine qqr ?_ | refine qqt ?_); simp only [SS, qx0, simprocAttr, hb, h1, gc_1, ff_9]))
  first | refine qqf ?_ ?_ | refine qqg ?_ ?_
  ·exact hk.keep
  ·simp only [packed, qv, Nat.reduceEqDiff, ↓reduceIte, few, ff_9]
   simp; omega
 by_cases h2 : (6 : Int) < g.terms.length
 ·repeat (first | refine qqm rfl ?_ | ((first | refine qqr ?_ | refine qqt ?_); simp only [SS, qx0, simprocAttr, hb, h1, h2, gc_1, gc_0, ff_9]))
  first | refine qqf ?_ ?_ | refine qqg ?_ ?_
  ·exact hk.keep
  ·simp only [packed, qv, Nat.reduceEqDiff, ↓reduceIte, few, ff_9]
   simp; omega
 by_cases h3 : (24 : Int) < g.rules.length
 ·repeat (first | refine qqm rfl ?_ | ((first | refine qqr ?_ | refine qqt ?_); simp only [SS, qx0, simprocAttr, hb, h1, h2, h3, gc_1, gc_0, gc_2, ff_9]))
  first | refine qqf ?_ ?_ | refine qqg ?_ ?_
  ·exact hk.keep
  ·simp only [packed, qv, Nat.reduceEqDiff, ↓reduceIte, few, ff_9]
   simp; omega
 repeat (first | refine qqm rfl ?_ | ((first | refine qqr ?_ | refine qqt ?_); simp only [SS, qx0, simprocAttr, hb, h1, h2, h3, gc_1, gc_0, gc_2, ff_9]))
 refine WK.loop (fun k s => ∃ i, s.n = n + 1 ∧ s.H = H1 ∧ s.f 1 = .pointer (some ⟨n, 0, none⟩) ∧ s.f 3 = .int .i64 (i : Nat) ∧ i ≤ g.rules.length ∧ k = g.rules.length - i ∧ ∀ r ∈ g.rules.take i, r.right.length ≤ 8) g.rules.length ?_ ?_
 ·exact ⟨0, rfl, rfl, rfl, rfl, Nat.zero_le _, rfl, by simp⟩
 rintro k ⟨f, n', H'⟩ ⟨i, rfl, rfl, f1, f3, hi, rfl, hall⟩ ih
 simp only at f1 f3 ih hr hb
 by_cases hir : i < g.rules.length
 ·obtain ⟨x, k, cs, ty, own, p, rfl, hx, c0, c1, c2, hp⟩ := hr.at hir
  by_cases h8 : (8 : Int) < g.rules[i].right.length
  ·repeat (first | refine qqm rfl ?_ | ((first | refine qqr ?_ | refine qqt ?_); simp only [SS, qx0, simprocAttr, f1, f3, hb, gc_2, hir, hx, c1, h8, ff_9]))
   first | refine qqf ?_ ?_ | refine qqg ?_ ?_
   ·exact hk.keep
   ·simp only [packed, qv, Nat.reduceEqDiff, ↓reduceIte, few, ff_9]
    have : g.rules.all (fun r => decide (r.right.length ≤ 8)) = false := by
     rw [List.all_eq_false]; exact ⟨g.rules[i], List.getElem_mem hir, by simp; omega⟩
    rw [this]; simp
  ·repeat (first | refine qqm rfl ?_ | ((first | refine qqr ?_ | refine qqt ?_); simp only [SS, qx0, simprocAttr, f1, f3, hb, gc_2, hir, hx, c1, h8, ff_9]))
   refine ih (g.rules.length - (i + 1)) (by omega) _ ⟨i + 1, rfl, rfl, f1, ?_, hir, rfl, ?_⟩
   ·simp only [packed, qv, Nat.reduceEqDiff, ↓reduceIte, ff_9]
    have := wg.rules; unfold maxL at this
    rw [wrap_in (by omega) (by omega)]; rfl
   ·intro r hr'
    rw [List.take_succ_eq_append_getElem hir, List.mem_append] at hr'
    rcases hr' with hr' | hr'
    ·exact hall r hr'
    ·simp at hr'; subst hr'; omega
 ·repeat (first | refine qqm rfl ?_ | ((first | refine qqr ?_ | refine qqt ?_); simp only [SS, qx0, simprocAttr, f1, f3, hb, gc_2, hir, ff_9]))
  first | refine qqf ?_ ?_ | refine qqg ?_ ?_
  ·exact hk.keep
  ·simp only [packed, qv, Nat.reduceEqDiff, ↓reduceIte, few, ff_9]
   rw [List.take_of_length_le (by omega)] at hall
   have : g.rules.all (fun r => decide (r.right.length ≤ 8)) = true := by
    rw [List.all_eq_true]; exact fun r hr => by simpa using hall r hr
   rw [this]; simp; omega
end Go.Proofs.YtihjaobjhmmboaaGreatDoor

namespace Go.Proofs.YtihjaobjhmmboaaGreatDoor
open Go.AM Go.AM.Fo Go.RowKit
set_option maxRecDepth 100000
theorem row_get {C1 C2 xs : List Value} {kr k L : Nat} (h1 : (xs.drop kr).take (k * 3) = C1) (h2 : (xs.drop (kr + (k + 1) * 3)).take ((L - (k + 1)) * 3) = C2) (hl : C1.length = k * 3) {i c : Nat} (hi : i + 1 < L) (hk : k < L) (hc : c < 3) : (C1 ++ C2)[i * 3 + c]? = xs[kr + upN k i * 3 + c]? := by
 unfold upN
 by_cases h : k ≤ i
 ·rw [if_pos h, List.getElem?_append_right (by omega), ← h2, List.getElem?_take, if_pos (by omega), List.getElem?_drop]
  congr 1; omega
 ·rw [if_neg h, List.getElem?_append_left (by omega), ← h1, List.getElem?_take, if_pos (by omega), List.getElem?_drop]
  congr 1; omega
theorem rr_less {H H' : Heap} {kr z k : Nat} {xs C1 C2 : List Value} {g : Gram} (hk : k < g.rules.length) (hrows : ∀ (i : Nat) r, g.rules[i]? = some r → ∃ p, xs[kr + i * 3]? = some (.int .i64 r.left) ∧ xs[kr + i * 3 + 1]? = some (.slice p r.right.length r.right.length) ∧ xs[kr + i * 3 + 2]? = some (.float .f64 r.weight) ∧ RS (Value.int .i64) H p r.right)
  (hm : ∀ p l, RS (Value.int .i64) H p l → RS (Value.int .i64) H' p l) (h1 : (xs.drop kr).take (k * 3) = C1) (h2 : (xs.drop (kr + (k + 1) * 3)).take ((g.rules.length - (k + 1)) * 3) = C2) (hl : C1.length = k * 3) {ty : TypeId} (hz : H' z = .cells (C1 ++ C2) ty true) : RR H' (some ⟨z, 0, none⟩) (lessG g k).rules :=
 fun _ => ⟨z, 0, _, ty, true, rfl, hz, fun i r e => by
  have hi := (List.getElem?_eq_some_iff.1 e).1
  have hll := less_len hk
  rw [less_get hk] at e
  obtain ⟨p, c0, c1, c2, c3⟩ := hrows _ r e
  have hg := fun c hc => row_get h1 h2 hl (i := i) (c := c) (by omega) hk hc
  refine ⟨p, ?_, ?_, ?_, hm _ _ c3⟩
  ·rw [Nat.zero_add]; exact (hg 0 (by omega)).trans c0
  ·rw [Nat.zero_add]; exact (hg 1 (by omega)).trans c1
  ·rw [Nat.zero_add]; exact (hg 2 (by omega)).trans c2⟩
theorem mem_less {g : Gram} {k : Nat} {r : GRule} (h : r ∈ (lessG g k).rules) : r ∈ g.rules := by
 unfold lessG at h
 rcases List.mem_append.1 h with h | h
 ·exact List.mem_of_mem_take h
 ·exact List.mem_of_mem_drop h
theorem wg_less {g : Gram} {k : Nat} (wg : WG g) (hk : k < g.rules.length) : WG (lessG g k) where
 terms := wg.terms
 vars := wg.vars
 rules := by have := less_len hk; have := wg.rules; omega
 left := fun r hr => wg.left r (mem_less hr)
 right := fun r hr => wg.right r (mem_less hr)
 weight := fun r hr => wg.weight r (mem_less hr)
 size := wg.size
end Go.Proofs.YtihjaobjhmmboaaGreatDoor

namespace Go.Proofs.YtihjaobjhmmboaaGreatDoor
open Go.AM Go.AM.Fo
set_option maxRecDepth 100000
theorem lv_m {n : Nat} {H : Heap} {z : Nat} (hw : WF n H) (h : H z ≠ .dead) : z < n := Classical.byContradiction fun hc => h (hw z (by omega))
theorem ok_upL {g : Gram} (h : RightOK g) : ∀ i j (hi : i < g.rules.length) (hj : j < g.rules.length), i ≤ j → g.rules[i].left ≤ g.rules[j].left := by
  intro i j hi hj hij
  induction j with
  | zero => obtain rfl : i = 0 := by omega
            exact Int.le_refl _
  | succ j ih =>
    by_cases e : i = j + 1
    · subst e; exact Int.le_refl _
    · exact Int.le_trans (ih (by omega) (by omega)) ((h.rule (j + 1) hj).up j rfl _ (List.getElem?_eq_getElem (by omega)))
theorem rules_less {g : Gram} {k : Nat} (ok : RightOK g) (hk : k < g.rules.length) : RulesOK (lessG g k) := by
 have hm : ∀ r ∈ (lessG g k).rules, ∃ i, ∃ h : i < g.rules.length, r = g.rules[i] := fun r hr => by
  obtain ⟨i, h, e⟩ := List.getElem_of_mem (mem_less hr)
  exact ⟨i, h, e.symm⟩
 have hl := less_len hk
 have hr := ok.rules
 refine ⟨ok.terms, by omega, fun r hr => ?_, fun r hr => ?_, fun r hr => ?_, fun r hr => ?_⟩ <;> obtain ⟨i, h, rfl⟩ := hm r hr
 ·exact ⟨(ok.rule i h).left0, (ok.rule i h).left1⟩
 ·exact (ok.rule i h).len
 ·exact (ok.rule i h).sym
 ·exact (ok.rule i h).told
theorem right_less {g : Gram} {k : Nat} (ok : RightOK g) (hk : k < g.rules.length) (hc : ∀ u : Nat, u < g.vars.length → ∃ r ∈ (lessG g k).rules, r.left = u) : RightOK (lessG g k) := by
 have hl := less_len hk
 have hr := ok.rules
 have ro := rules_less ok hk
 refine ⟨ok.vars1, ok.vars, ok.terms, by omega, fun i h => ?_, fun v hv => ?_⟩
 ·have hm := List.getElem_mem h
  refine ⟨(ro.left _ hm).1, (ro.left _ hm).2, ro.len _ hm, ro.sym _ hm, fun q hq r' hr' => ?_, ro.told _ hm⟩
  subst hq
  obtain ⟨h1, e1⟩ := less_at hk (i := q) (by omega)
  obtain ⟨h2, e2⟩ := less_at hk (i := q + 1) h
  rw [List.getElem?_eq_getElem (by omega)] at hr'
  cases hr'
  rw [e1, e2]
  exact ok_upL ok _ _ h1 h2 (by unfold upN; split <;> split <;> omega)
 ·obtain ⟨r, h1, h2⟩ := hc v hv
  unfold countR
  intro h0
  have : r ∈ (lessG g k).rules.filter fun r => decide (r.left = (v : Int)) := List.mem_filter.2 ⟨h1, by simpa using h2⟩
  rw [List.eq_nil_of_length_eq_zero h0] at this
  cases this
set_option maxHeartbeats 16000000 in
theorem growsLaw_gives {v : Value} {g : Gram} {kk : Int} {n : Nat} {H : Heap} (hw : WF n H) (hG : ∀ x, G x ≠ .dead → H x = G x) (hg : RG H v g) (wg : WG g) (hro : AllRO H) :
  Gives Tryz.prog 6 [v, .int .i64 kk] n H fun v _ _ => v = .bool true := by
 have hg0 := hg
 have hGH : GH n H := ⟨hw, hG⟩
 obtain ⟨pt, pv, pr, rfl, ht, hv, hr⟩ := hg
 have hr0 := hr
 refine Gives.of orders ok6 (Nat.le_of_ble_eq_true rfl) ?_
 have k1 := Kp.new n H (.cells (gcells pt pv pr g) 25 true)
 have hb1 := hset_at H n (.cells (gcells pt pv pr g) 25 true)
 repeat refine qqn rfl ?_
 (refine qqr ?_; simp only [SS, qx9, vun, simprocAttr, abox, box_cells, box_one, ff_6])
 generalize hset H n (.cells (gcells pt pv pr g) 25 true) = H1 at *
 have hw1 := k1.wf hw
 have hG1 := hGH.keep k1
 repeat (first | refine qqm rfl ?_ | ((first | refine qqr ?_ | refine qqt ?_); simp only [SS, qx9, vun, simprocAttr, ff_6]))
 refine AtCall.by (alive_gives _ _ hG1.2) ?_
 rintro v n2 H2 k2 ⟨rfl, rfl, rfl⟩
 have hg2 := hg0.mono hw k1
 simp only [SS, qx9, vun, simprocAttr, ff_6]
 repeat (first | refine qqm rfl ?_ | ((first | refine qqr ?_ | refine qqt ?_); simp only [SS, qx9, vun, simprocAttr, hb1, gc_all, gc_len, ff_6]))
 refine AtCall.by (few_gives hw1 hg2 wg) ?_
 rintro v n3 H3 k3 rfl
 have hw3 := k3.wf hw1
 have hle3 := k3.le
 have hb3 := (k3.keep n (by omega)).trans hb1
 have hg3 := hg2.mono hw1 k3
 have kk3 := k1.trans k3
 cases hf : few g with
 | false =>
  simp only [SS, qx9, vun, simprocAttr, Bool.not_false, ff_6]
  repeat (first | refine qqm rfl ?_ | ((first | refine qqr ?_ | refine qqt ?_); simp only [SS, qx9, vun, simprocAttr, ff_6]))
  first | refine qqf ?_ ?_ | refine qqg ?_ ?_
  ·exact kk3.keep
  ·simp only [packed, qv, Nat.reduceEqDiff, ↓reduceIte, ff_6]
 | true =>
  simp only [SS, qx9, vun, simprocAttr, Bool.not_true, hb3, gc_all, gc_len, ff_6]
  refine AtCall.by (right_gives hw3 hg3 wg) ?_
  rintro v n4 H4 k4 ⟨t, rfl, hok⟩
  have hw4 := k4.wf hw3
  have hle4 := k4.le
  have hb4 := (k4.keep n (by omega)).trans hb3
  have kk4 := kk3.trans k4
  cases t with
  | false =>
   simp only [SS, qx9, vun, simprocAttr, Bool.not_false, ff_6]
   repeat (first | refine qqm rfl ?_ | ((first | refine qqr ?_ | refine qqt ?_); simp only [SS, qx9, vun, simprocAttr, ff_6]))
   first | refine qqf ?_ ?_ | refine qqg ?_ ?_
   ·exact kk4.keep
   ·simp only [packed, qv, Nat.reduceEqDiff, ↓reduceIte, ff_6]
  | true =>
   have ok := hok rfl
   have hne : 0 < g.rules.length := by
    have h1 := ok.count 0 (by have := ok.vars1; omega)
    apply Classical.byContradiction
    intro h
    have : g.rules = [] := List.length_eq_zero_iff.1 (by omega)
    rw [this] at h1
    exact h1 rfl
   have hL0 : ((g.rules.length : Int) = 0) = False := by simp only [eq_iff_iff, iff_false]; omega
   obtain ⟨j, hj, hjw⟩ := low_bits kk
   have hrl256 := ok.rules
   obtain ⟨k, hk⟩ : ∃ k, j % g.rules.length = k := ⟨_, rfl⟩
   have hkl : k < g.rules.length := by rw [← hk]; exact Nat.mod_lt _ hne
   have hrest : ((j : Int).tmod (g.rules.length : Int)) = (k : Int) := by rw [rest_nat, hk]
   have gc_2 : (gcells pt pv pr g)[2]? = some (.slice pr g.rules.length g.rules.length) := rfl
   have spg : AM.splice [Value.slice none 0 0, Value.slice none 0 0, Value.slice none 0 0] 0 (gcells pt pv pr g) = gcells pt pv pr g := rfl
   simp only [SS, qx9, vun, simprocAttr, Bool.not_true, ff_6]
   repeat refine qqn rfl ?_
   refine qqm rfl ?_
   repeat refine qqn rfl ?_
   (refine qqr ?_; simp only [SS, qx9, vun, simprocAttr, hb4, gc_2, hL0, hjw, hrest, ff_6])
   repeat refine qqn rfl ?_
   (refine qqr ?_; simp only [SS, qx9, vun, simprocAttr, hb4, gc_all, gc_len, box_cells, box_one, spg, hset_at, ff_6])
   repeat refine qqn rfl ?_
   have k5 := Kp.new n4 H4 (.cells (gcells pt pv pr g) 25 true)
   have hh5 := hset_at H4 n4 (.cells (gcells pt pv pr g) 25 true)
   have hb5 := (k5.keep n (by omega)).trans hb4
   generalize hset H4 n4 (.cells (gcells pt pv pr g) 25 true) = H5 at *
   have hw5 := k5.wf hw4
   have kA := kk4.trans k5
   obtain ⟨xr, kr, xs, xty, xown, rfl, hxr0, hrows⟩ := hr (by intro e; rw [e] at hne; simp at hne)
   obtain rfl := hro _ _ _ _ hxr0
   have hlen : kr + g.rules.length * 3 ≤ xs.length := by
    obtain ⟨_, _, _, c2, _⟩ := hrows (g.rules.length - 1) _ (List.getElem?_eq_getElem (by omega))
    have := (List.getElem?_eq_some_iff.1 c2).1
    omega
   have hkle : k ≤ g.rules.length := by omega
   have hkle1 : k + 1 ≤ g.rules.length := by omega
   have hs1 : kr + k * 3 ≤ xs.length := by omega
   have hs2 : kr + (k + 1) * 3 + (g.rules.length - (k + 1)) * 3 ≤ xs.length := by omega
   obtain ⟨C1, hC1⟩ : ∃ C1, (xs.drop kr).take (k * 3) = C1 := ⟨_, rfl⟩
   obtain ⟨C2, hC2⟩ : ∃ C2, (xs.drop (kr + (k + 1) * 3)).take ((g.rules.length - (k + 1)) * 3) = C2 := ⟨_, rfl⟩
   have hl1 : C1.length = k * 3 := by rw [← hC1, List.length_take, List.length_drop]; omega
   have hb1' : 0 + k ≤ bigN := by unfold bigN; omega
   have hb1'' : k ≤ bigN := by unfold bigN; omega
   have hb2' : k + (g.rules.length - (k + 1)) ≤ bigN := by unfold bigN; omega
   have ht1 : C1.take (k * 3) = C1 := List.take_of_length_le (by omega)
   have hxr := (kA.keep xr (lv_m hw (by rw [hxr0]; intro e; cases e))).trans hxr0
   have q1 : ∀ (H : Heap) ob, hset H (n4 + 1) ob n = H n := fun H ob => hset_ne _ _ _ (by omega)
   have q2 : ∀ (H : Heap) ob, hset H (n4 + 1) ob n4 = H n4 := fun H ob => hset_ne _ _ _ (by omega)
   have xrn := lv_m hw (z := xr) (by rw [hxr0]; intro e; cases e)
   have hle := kA.le
   have q3 : ∀ (H : Heap) ob, hset H (n4 + 1) ob xr = H xr := fun H ob => hset_ne _ _ _ (by omega)
   have q4 : ∀ (H : Heap) ob, hset H (n4 + 1 + 1) ob n = H n := fun H ob => hset_ne _ _ _ (by omega)
   have q5 : ∀ (H : Heap) ob, hset H (n4 + 1 + 1) ob n4 = H n4 := fun H ob => hset_ne _ _ _ (by omega)
   have q6 : ∀ (H : Heap) ob, hset H (n4 + 1 + 1) ob xr = H xr := fun H ob => hset_ne _ _ _ (by omega)
   have q7 : ∀ (H : Heap) ob, hset H (n4 + 1 + 1 + 1) ob n4 = H n4 := fun H ob => hset_ne _ _ _ (by omega)
   have hct1 : [xr].contains (n4 + 1) = false := by simp; omega
   have hct2 : [xr].contains (n4 + 1 + 1) = false := by simp; omega
   have hg3 : (gcells pt pv (some ⟨xr, kr, none⟩) g).length = 3 := rfl
   have wk1 : IntKind.i64.wrap ((k : Int) + 1) = ((k + 1 : Nat) : Int) := by rw [wrap_in (by omega) (by omega)]; rfl
   (refine WK.rgl [(5, 7), (5, 10)] (by kernel_rfl) ?_; simp only [wl, wl1_false, wl1_true, wl2_none, wl2_some, wl3_some, wl3_none, SS, forall_const, wx, tguard, acallee, top, tval, fput, tor, vsh, vbin, vun, tload, tload2, tload3, tstore, tstore2, tstore3, Go.AM.splice, one, tidx, tidx2, tidx3, tfa, tfa2, tlen2, tlen3, tpick, textr, tbox, talloc, still, still1, flat1, tbs, tbs2, afill, tsl, tsl2, tsl3, tsl4, tsl5, Go.AM.bound, tap, tap2, tap3, tap4, tsrc, tsrc2, simprocAttr, hb5, gc_2, q1, q2, q3, q4, q5, q6, q7, hct1, hct2, hg3, hxr, hh5, wk1, hset_at, hkle, hkle1, hs1, hs2, hC1, hC2, hl1, hb1', hb1'', hb2', ht1, Bool.false_eq_true, false_imp_iff, and_true, Int.toNat_natCast, Nat.zero_add, List.length_nil, List.take_nil, List.drop_nil, List.nil_append, Nat.zero_mul, Nat.le_refl, ff_6])
   refine ⟨light_cons rfl rfl (lapart_wr (by simp; omega)) (light_cons rfl rfl (lapart_wr (by simp; omega)) light_nil), ?_⟩
   rw [List.drop_zero, ht1]
   have hll := less_len hkl
   have hgl : k + (g.rules.length - (k + 1)) = (lessG g k).rules.length := by omega
   have hgs : (gcells pt pv (some ⟨xr, kr, none⟩) g).set 2 (.slice (some ⟨n4 + 1 + 1 + 1, 0, none⟩) (k + (g.rules.length - (k + 1))) (k + (g.rules.length - (k + 1)))) = gcells pt pv (some ⟨n4 + 1 + 1 + 1, 0, none⟩) (lessG g k) := by rw [hgl]; rfl
   rw [hgs]
   have k6 : Kp n4 H4 (n4 + 1 + 1 + 1 + 1) (hset (hset (hset (hset H5 (n4 + 1) .dead) (n4 + 1 + 1) .dead) (n4 + 1 + 1 + 1) (.cells (C1 ++ C2) 44 true)) n4 (.cells (gcells pt pv (some ⟨n4 + 1 + 1 + 1, 0, none⟩) (lessG g k)) 25 true)) :=
    (((k5.trans ((Kp.new (n4 + 1) H5 .dead).trans (Kp.new (n4 + 1 + 1) _ .dead))).trans (Kp.new (n4 + 1 + 1 + 1) _ (.cells (C1 ++ C2) 44 true))).set (x := n4) _ (Nat.le_refl _) (by omega))
   have hz6 : (hset (hset (hset (hset H5 (n4 + 1) .dead) (n4 + 1 + 1) .dead) (n4 + 1 + 1 + 1) (.cells (C1 ++ C2) 44 true)) n4 (.cells (gcells pt pv (some ⟨n4 + 1 + 1 + 1, 0, none⟩) (lessG g k)) 25 true)) (n4 + 1 + 1 + 1) = .cells (C1 ++ C2) 44 true := (hset_ne _ _ _ (by omega)).trans (hset_at _ _ _)
   have hh6 := hset_at (hset (hset (hset H5 (n4 + 1) .dead) (n4 + 1 + 1) .dead) (n4 + 1 + 1 + 1) (.cells (C1 ++ C2) 44 true)) n4 (.cells (gcells pt pv (some ⟨n4 + 1 + 1 + 1, 0, none⟩) (lessG g k)) 25 true)
   generalize hset (hset (hset (hset H5 (n4 + 1) .dead) (n4 + 1 + 1) .dead) (n4 + 1 + 1 + 1) (.cells (C1 ++ C2) 44 true)) n4 (.cells (gcells pt pv (some ⟨n4 + 1 + 1 + 1, 0, none⟩) (lessG g k)) 25 true) = H6 at *
   have hw6 := k6.wf hw4
   have kB := kk4.trans k6
   have hb6 := (k6.keep n (by omega)).trans hb4
   have hrr := rr_less hkl hrows (fun p l h => h.mono hw kB) hC1 hC2 hl1 hz6
   have hgh : RG H6 (.agg (gcells pt pv (some ⟨n4 + 1 + 1 + 1, 0, none⟩) (lessG g k)).toArray) (lessG g k) := ⟨pt, pv, _, rfl, ht.mono hw kB, hv.mono hw kB, hrr⟩
   have wgh := wg_less wg hkl
   have roh := rules_less ok hkl
   have gh_all := gc_all pt pv (some ⟨n4 + 1 + 1 + 1, 0, none⟩) (lessG g k)
   have gh_len := gc_len pt pv (some ⟨n4 + 1 + 1 + 1, 0, none⟩) (lessG g k)
   have hG6 := hGH.keep kB
   have hfgn : (lessG g k).vars ≠ [] → Fgn H6 pv := fun h0 x k' cs ty own e1 e2 => by
    obtain ⟨x', k2, cs', ty', own', f1, f2, _⟩ := hv h0
    rw [f1] at e1
    cases e1
    have hx : x < n := Classical.byContradiction fun hc => by rw [hw x (by omega)] at f2; cases f2
    rw [kB.keep x hx] at e2
    exact hro _ _ _ _ e2
   repeat (first | refine qqm rfl ?_ | ((first | refine qqr ?_ | refine qqt ?_); simp only [SS, qx9, vun, simprocAttr, hh6, gh_all, gh_len, ff_6]))
   refine AtCall.by (gRight_gives hG6 (ht.mono hw kB) (hv.mono hw kB) hrr hfgn wgh roh) ?_
   rintro v n7 H7 k7 ⟨t, rfl, hcov⟩
   have hw7 := k7.wf hw6
   have hh7 := (k7.keep n4 (by omega)).trans hh6
   have hb7 := (k7.keep n (by omega)).trans hb6
   have hle7 := k7.le
   have hle6 := k6.le
   have kC := kB.trans k7
   cases t with
   | false =>
    simp only [SS, qx9, vun, simprocAttr, Bool.not_false, ff_6]
    repeat (first | refine qqm rfl ?_ | ((first | refine qqr ?_ | refine qqt ?_); simp only [SS, qx9, vun, simprocAttr, ff_6]))
    first | refine qqf ?_ ?_ | refine qqg ?_ ?_
    ·exact kC.keep
    ·simp only [packed, qv, Nat.reduceEqDiff, ↓reduceIte, ff_6]
   | true =>
    have okh := right_less ok hkl (hcov rfl)
    have hg7 := hg0.mono hw kC
    have hgh7 := hgh.mono hw6 k7
    simp only [SS, qx9, vun, simprocAttr, Bool.not_true, ff_6]
    repeat (first | refine qqm rfl ?_ | ((first | refine qqr ?_ | refine qqt ?_); simp only [SS, qx9, vun, simprocAttr, hh7, gh_all, gh_len, ff_6]))
    refine AtCall.by (productive_gives hw7 hgh7 wgh okh) ?_
    rintro v n8 H8 k8 ⟨la, xa, _, ha1, rfl, hal, hxa, hpa⟩
    have hw8 := k8.wf hw7
    have hle8 := k8.le
    have kD := kC.trans k8
    have hb8 := (k8.keep n (by omega)).trans hb7
    have hh8 := (k8.keep n4 (by omega)).trans hh7
    simp only [SS, qx9, vun, simprocAttr, hb8, gc_all, gc_len, ff_6]
    refine AtCall.by (productive_gives hw8 (hg0.mono hw kD) wg ok) ?_
    rintro v n9 H9 k9 ⟨lb, xb, _, hb1', rfl, hbl, hxb, hpb⟩
    have hw9 := k9.wf hw8
    have hle9 := k9.le
    have kE := kD.trans k9
    have hb9 := (k9.keep n (by omega)).trans hb8
    have hh9 := (k9.keep n4 (by omega)).trans hh8
    have hgh9 := (hgh7.mono hw7 k8).mono hw8 k9
    simp only [SS, qx9, vun, simprocAttr, ff_6]
    repeat (first | refine qqm rfl ?_ | ((first | refine qqr ?_ | refine qqt ?_); simp only [SS, qx9, vun, simprocAttr, hh9, gh_all, gh_len, ff_6]))
    refine AtCall.by (nullable_gives hw9 hgh9 wgh okh) ?_
    rintro v n10 H10 k10 ⟨lc, xc, _, hc1', rfl, hcl, hxc, hpc⟩
    have hw10 := k10.wf hw9
    have hle10 := k10.le
    have kF := kE.trans k10
    have hb10 := (k10.keep n (by omega)).trans hb9
    have hh10 := (k10.keep n4 (by omega)).trans hh9
    simp only [SS, qx9, vun, simprocAttr, hb10, gc_all, gc_len, ff_6]
    refine AtCall.by (nullable_gives hw10 (hg0.mono hw kF) wg ok) ?_
    rintro v n11 H11 k11 ⟨ld, xd, _, hd1', rfl, hdl, hxd, hpd⟩
    have hw11 := k11.wf hw10
    have hle11 := k11.le
    have kG := kF.trans k11
    have hb11 := (k11.keep n (by omega)).trans hb10
    have hh11 := (k11.keep n4 (by omega)).trans hh10
    have hgh11 := (hgh9.mono hw9 k10).mono hw10 k11
    simp only [SS, qx9, vun, simprocAttr, ff_6]
    repeat (first | refine qqm rfl ?_ | ((first | refine qqr ?_ | refine qqt ?_); simp only [SS, qx9, vun, simprocAttr, hh11, gh_all, gh_len, ff_6]))
    refine AtCall.by (cost_gives hw11 hgh11 wgh okh) ?_
    rintro v n12 H12 k12 ⟨ch, bh, rfl, hch, _, hchl, _, hOKh, _⟩
    have hw12 := k12.wf hw11
    have hle12 := k12.le
    have kI := kG.trans k12
    have hb12 := (k12.keep n (by omega)).trans hb11
    simp only [SS, qx9, vun, simprocAttr, ff_6]
    repeat (first | refine qqm rfl ?_ | ((first | refine qqr ?_ | refine qqt ?_); simp only [SS, qx9, vun, simprocAttr, hb12, gc_all, gc_len, ff_6]))
    refine AtCall.by (cost_gives hw12 (hg0.mono hw kI) wg ok) ?_
    rintro v n13 H13 k13 ⟨cg, bg, rfl, hcg, _, hcgl, _, hOKg, _⟩
    have hw13 := k13.wf hw12
    have hle13 := k13.le
    have kJ := kI.trans k13
    have hb13 := (k13.keep n (by omega)).trans hb12
    have xa13 := (k13.keep xa (by omega)).trans ((k12.keep xa (by omega)).trans ((k11.keep xa (by omega)).trans ((k10.keep xa (by omega)).trans ((k9.keep xa (by omega)).trans hxa))))
    have xb13 := (k13.keep xb (by omega)).trans ((k12.keep xb (by omega)).trans ((k11.keep xb (by omega)).trans ((k10.keep xb (by omega)).trans hxb)))
    have xc13 := (k13.keep xc (by omega)).trans ((k12.keep xc (by omega)).trans ((k11.keep xc (by omega)).trans hxc))
    have xd13 := (k13.keep xd (by omega)).trans ((k12.keep xd (by omega)).trans hxd)
    have xh13 := (k13.keep (n11 + 1) (lv_m hw12 (by rw [hch]; intro e; cases e))).trans hch
    simp only [SS, qx9, vun, simprocAttr, ff_6]
    repeat (first | refine qqm rfl ?_ | ((first | refine qqr ?_ | refine qqt ?_); simp only [SS, qx9, vun, simprocAttr, hb13, gc_1, gc_len, ff_6]))
    have hvl : (lessG g k).vars.length = g.vars.length := rfl
    rw [hvl] at hal hcl hchl
    simp only [hvl]
    have hv64 := ok.vars
    refine WK.loop (fun q s => ∃ i : Nat, s.n = n13 ∧ s.H = H13 ∧ s.f 6 = .slice (some ⟨xa, 0, none⟩) g.vars.length g.vars.length ∧ s.f 7 = .slice (some ⟨xb, 0, none⟩) g.vars.length g.vars.length ∧ s.f 8 = .slice (some ⟨xc, 0, none⟩) g.vars.length g.vars.length ∧ s.f 9 = .slice (some ⟨xd, 0, none⟩) g.vars.length g.vars.length ∧
     s.f 10 = .slice (some ⟨n11 + 1, 0, none⟩) g.vars.length g.vars.length ∧ s.f 12 = .slice (some ⟨n12 + 1, 0, none⟩) g.vars.length g.vars.length ∧ s.f 68 = .int .i64 (g.vars.length : Nat) ∧ s.f 69 = .int .i64 (i : Nat) ∧ i ≤ g.vars.length ∧ q = g.vars.length - i) g.vars.length ?_ ?_
    ·exact ⟨0, rfl, rfl, rfl, rfl, rfl, rfl, rfl, rfl, rfl, rfl, Nat.zero_le _, rfl⟩
    rintro q ⟨f, n14, H14⟩ ⟨i, rfl, rfl, f6, f7, f8, f9, f10, f12, f68, f69, hi, rfl⟩ ih
    simp only at f6 f7 f8 f9 f10 f12 f68 f69 ih xa13 xb13 xc13 xd13 xh13 hcg kJ
    by_cases hlt : i < g.vars.length
    ·have hiw : IntKind.i64.wrap ((i : Int) + 1) = ((i + 1 : Nat) : Int) := by rw [wrap_in (by omega) (by omega)]; rfl
     have hfar : farN = 1073741824 := rfl
     have hcl' := cost_less hkl hOKh hOKg (v := i) hlt
     have hcp := cost_prd hOKg (v := i) hlt
     have hcn := cost_nul ok.inG hOKg (v := i) hlt
     have hcap := hOKg.cap i hlt
     have bat : ∀ {l : List Bool} (hl : l.length = g.vars.length), (l.map Value.bool)[i]? = some (.bool (l[i]'(by omega))) := fun {l} hl => by rw [List.getElem?_map, List.getElem?_eq_getElem (by omega)]; rfl
     have nat : ∀ {l : List Nat} (hl : l.length = g.vars.length), (l.map natC)[i]? = some (.int .i64 ((cF l i : Nat) : Int)) := fun {l} hl => by
      rw [List.getElem?_map, List.getElem?_eq_getElem (by omega)]
      have : cF l i = l[i]'(by omega) := by simp [cF, show i < l.length by omega]
      rw [this]; rfl
     have ea := bat hal
     have eb := bat hbl
     have ec := bat hcl
     have ed := bat hdl
     have eh := nat hchl
     have eg := nat hcgl
     have holdi : ∀ {l : List Bool} (hl : l.length = g.vars.length), hold l (i : Int) ↔ (l[i]'(by omega)) = true := fun {l} hl => by
      have := hold_nat (l := l) (u := i)
      rw [List.getElem?_eq_getElem (by omega)] at this
      simpa using this
     have hab : (la[i]'(by omega)) = true → (lb[i]'(by omega)) = true := fun h => (holdi hbl).1 ((hpb _).2 (prd_less hkl ((hpa _).1 ((holdi hal).2 h))))
     have hcd : (lc[i]'(by omega)) = true → (ld[i]'(by omega)) = true := fun h => (holdi hdl).1 ((hpd _).2 (nul_less hkl ((hpc _).1 ((holdi hcl).2 h))))
     have hb2 : cF cg i < farN → (lb[i]'(by omega)) = true := fun h => (holdi hbl).1 ((hpb _).2 (hcp h))
     have hd2 : (ld[i]'(by omega)) = true ↔ cF cg i = 0 := (holdi hdl).symm.trans ((hpd _).trans hcn.symm)
     generalize la[i]'(by omega) = a at *
     generalize lb[i]'(by omega) = b at *
     generalize lc[i]'(by omega) = c at *
     generalize ld[i]'(by omega) = d at *
     generalize cF cg i = y at *
     generalize cF ch i = x at *
     have hxy : ((x : Int) < (y : Int)) = False := by simp only [eq_iff_iff, iff_false]; omega
     have hx0 : ((x : Int) < 0) = False := by simp only [eq_iff_iff, iff_false]; omega
     have n1 : (true != false) = true := rfl
     have n2 : (false != true) = true := rfl
     have t1 : ∀ {p : Prop}, p → p = True := eq_true
     have t0 : ∀ {p : Prop}, ¬ p → p = False := eq_false
     have y3 : (y : Int) < 1073741824 ∨ ¬ (y : Int) < 1073741824 := Classical.em _
     have y4 : (y : Int) < 1048576 ∨ ¬ (y : Int) < 1048576 := Classical.em _
     have y0 : (y : Int) = 0 ∨ ¬ (y : Int) = 0 := Classical.em _
     rcases y3 with y3 | y3 <;> rcases y4 with y4 | y4 <;> rcases y0 with y0 | y0 <;> cases a <;> cases b <;> cases c <;> cases d
     all_goals first | (exfalso; simp at hab; done) | (exfalso; simp at hcd; done) | (exfalso; have := hb2 (by omega); simp at this; done) | (exfalso; have := hd2.1 rfl; omega) | (exfalso; have := hd2.2 (by omega); simp at this; done) | (exfalso; omega) | skip
     all_goals repeat (first | refine qqm rfl ?_ | ((first | refine qqr ?_ | refine qqt ?_); simp only [SS, qx9, vun, simprocAttr, f6, f7, f8, f9, f10, f12, f68, f69, hlt, xa13, xb13, xc13, xd13, xh13, hcg, ea, eb, ec, ed, eh, eg, hxy, hx0, y0, y3, y4, hiw, n1, n2, bne_self_eq_false, Bool.not_true, Bool.not_false, decide_true, decide_false, Nat.zero_add, List.append_eq, List.cons_append, List.nil_append, ff_6]))
     all_goals exact ih (g.vars.length - (i + 1)) (by omega) _ ⟨i + 1, rfl, rfl, f6, f7, f8, f9, f10, f12, f68, rfl, hlt, rfl⟩
    ·repeat (first | refine qqm rfl ?_ | ((first | refine qqr ?_ | refine qqt ?_); simp only [SS, qx9, vun, simprocAttr, f68, f69, hlt, ff_6]))
     first | refine qqf ?_ ?_ | refine qqg ?_ ?_
     ·exact kJ.keep
     ·simp only [packed, qv, Nat.reduceEqDiff, ↓reduceIte, ff_6]
end Go.Proofs.YtihjaobjhmmboaaGreatDoor

namespace Go.Proofs.YtihjaobjhmmboaaGreatDoor
open Go.AM
set_option maxRecDepth 100000
theorem und_22 : Tryz.prog.underlying 22 = some (.slice 9) := by kernel_rfl
theorem und_23 : Tryz.prog.underlying 23 = some (.slice 44) := by kernel_rfl
theorem und_28 : Tryz.prog.underlying 28 = some (.slice 3) := by kernel_rfl
theorem und_25 : ∃ f1 f2 f3 : Field, Tryz.prog.underlying 25 = some (.struct #[f1, f2, f3]) ∧ f1.type = 22 ∧ f1.offset = 0 ∧ f2.type = 22 ∧ f2.offset = 1 ∧ f3.type = 23 ∧ f3.offset = 2 :=
 ⟨{ name := "Terms", type := 22, offset := 0, embedded := false, tag := "", pkgPath := "", byteOffset := 0 }, { name := "Vars", type := 22, offset := 1, embedded := false, tag := "", pkgPath := "", byteOffset := 24 },
  { name := "Rules", type := 23, offset := 2, embedded := false, tag := "", pkgPath := "", byteOffset := 48 }, by kernel_rfl, rfl, rfl, rfl, rfl, rfl, rfl⟩
theorem und_44 : ∃ f1 f2 f3 : Field, Tryz.prog.underlying 44 = some (.struct #[f1, f2, f3]) ∧ f1.type = 3 ∧ f1.offset = 0 ∧ f2.type = 28 ∧ f2.offset = 1 ∧ f3.type = 42 ∧ f3.offset = 2 :=
 ⟨{ name := "Left", type := 3, offset := 0, embedded := false, tag := "", pkgPath := "", byteOffset := 0 }, { name := "Right", type := 28, offset := 1, embedded := false, tag := "", pkgPath := "", byteOffset := 8 },
  { name := "Weight", type := 42, offset := 2, embedded := false, tag := "", pkgPath := "", byteOffset := 32 }, by kernel_rfl, rfl, rfl, rfl, rfl, rfl, rfl⟩
theorem gramT : GramT Tryz.prog 25 44 3 9 22 23 28 42 := ⟨und_25, und_44, und_3, und_9, und_22, und_23, und_28, und_42, csz_3, csz_9, csz_22, csz_23, csz_28, csz_42, csz_44, csz_25⟩
theorem own : ownKnob Tryz.prog.godebug = none := by kernel_rfl
theorem laid : laidOutB Tryz.prog = true := by kernel_rfl
end Go.Proofs.YtihjaobjhmmboaaGreatDoor
