/- A part of a proof. Its conditions: none. -/
import Derived.Test.YtemkglelfeidhaaAmJLfCostW
import Derived.Test.YtemkglelfeidhaaAmC
import Derived.Test.YtemkglelfeidhaaAmJLfPrice
set_option linter.all false
namespace Go.Proofs.Ytemkglelfeidhaa
open Go.AM
set_option maxRecDepth 100000
set_option maxHeartbeats 8000000 in
theorem costR_gives {v : Value} {g : Gram} {n : Nat} {H : Heap} (hw : WF n H) (hg : RG H v g) (wg : WG g) (ok : RightOK g) {c : Nat → Nat} {b : Nat → Int} (hc : CostOK g c b) :
    Gives Try.prog 50 [v] n H fun v _ H' => ∃ (cl : List Nat) (x : Nat), n ≤ x ∧ v = .slice (some ⟨x, 0, none⟩) g.vars.length g.vars.length ∧ cl.length = g.vars.length ∧ H' x = .cells (cl.map natC) 3 true ∧ ∀ v, v < g.vars.length → cF cl v = c v := by
  have hg0 := hg
  obtain ⟨pt, pv, pr, rfl, ht, hv, hr⟩ := hg
  refine Gives.of orders ok50 (Nat.le_of_ble_eq_true rfl) ?_
  have hk := Kp.new n H (.cells (gcells pt pv pr g) 25 true)
  have hb := hset_at H n (.cells (gcells pt pv pr g) 25 true)
  have hi := ok.inG
  have hv64 := ok.vars
  have hv1 := ok.vars1
  have hrl := ok.rules
  have hfar : farN = 1073741824 := rfl
  have hL := hc.rel hi
  obtain ⟨ord, hrk, hall⟩ := hc.ranked
  repeat (first | refine qqn rfl ?_)
  (refine WK.rgn ?_ ?_; kernel_rfl; simp (config := {maxSteps:=999999}) only [SS, qx23, forall_const, simprocAttr, box_cells, box_one, ff_50])
  generalize hset H n (.cells (gcells pt pv pr g) 25 true) = H1 at *
  repeat (first | refine qqn rfl ?_ | ((first | (refine WK.rgn ?_ ?_; kernel_rfl) | refine AtCall.now ?_); simp (config := {maxSteps:=999999}) only [SS, qx23, forall_const, simprocAttr, ff_50]) | refine qqj rfl ?_ | refine qqk rfl ?_)
  have k1 := hk.trans (Kp.new (n + 1) H1 (.cells [] 3 true))
  have b0 := ((Kp.new (n + 1) H1 (.cells [] 3 true)).keep n (by omega)).trans hb
  have b1 := hset_at H1 (n + 1) (.cells [] 3 true)
  generalize hset H1 (n + 1) (.cells [] 3 true) = H2 at *
  refine WK.loop (fun k s => ∃ (i y : Nat), Kp n H s.n s.H ∧ s.f 1 = .pointer (some ⟨n, 0, none⟩) ∧ s.f 3 = .slice (some ⟨y, 0, none⟩) i i ∧ s.f 4 = .int .i64 (i : Nat) ∧ s.H n = .cells (gcells pt pv pr g) 25 true ∧ s.H y = .cells ((List.replicate i farN).map natC) 3 true ∧ n < y ∧ i ≤ g.vars.length ∧ k = g.vars.length - i) g.vars.length ?_ ?_
  · exact ⟨0, n + 1, k1, rfl, rfl, rfl, b0, b1, Nat.lt_succ_self _, Nat.zero_le _, rfl⟩
  clear k1 b0 b1
  rintro kk' ⟨f, n5, H5⟩ ⟨i, y, kp, f1, f3, f4, b0, hy, hyn, hiv, rfl⟩ ih
  simp only at f1 f3 f4 ih kp b0 hy
  have hw5 := kp.wf hw
  have hy5 := live_lt hw5 (live_of hy)
  by_cases hil : i < g.vars.length
  · have hiw : IntKind.i64.wrap ((i : Int) + 1) = ((i + 1 : Nat) : Int) := by rw [wrap_in (by omega) (by omega)]; rfl
    have v1 : i ≤ ((List.replicate i farN).map natC).length := by simp
    have v2 : [n5].contains y = false := by simp; omega
    have v3 : i + 1 ≤ bigN := by unfold bigN; omega
    have v5 : ∀ o, hset H5 n5 o y = _ := fun o => (hset_ne _ _ _ (by omega)).trans hy
    have v6 : ((List.replicate i farN).map natC).take i = (List.replicate i farN).map natC := List.take_of_length_le (by simp)
    repeat (first | refine qqn rfl ?_ | ((first | (refine WK.rgn ?_ ?_; kernel_rfl) | refine AtCall.now ?_); simp (config := {maxSteps:=999999}) only [SS, qx23, forall_const, simprocAttr, f1, f3, f4, b0, gc_1, hil, hiw, v1, v2, v3, v5, v6, List.drop_zero, ff_50]) | refine qqj rfl ?_ | refine qqk rfl ?_)
    have kq := ((kp.trans (Kp.new n5 H5 (.cells [.int .i64 1073741824] 3 true))).set (x := y) .dead (by omega) (by omega)).trans (Kp.new (n5 + 1) _ (.cells ((List.replicate i farN).map natC ++ [.int .i64 1073741824]) 3 true))
    refine ih (g.vars.length - (i + 1)) (by omega) _ ⟨i + 1, n5 + 1, kq, f1, rfl, ?_, ?_, ?_, by have := kp.le; omega, hil, rfl⟩
    · simp only [packed, fset_apply, Nat.reduceEqDiff, ↓reduceIte, List.getD_cons_zero, List.getD_cons_succ, f4, hiw, ff_50]
    · have := live_lt hw5 (live_of b0)
      exact (hset_ne _ _ _ (by omega)).trans ((hset_ne _ _ _ (by omega)).trans ((hset_ne _ _ _ (by omega)).trans b0))
    · refine (hset_at _ _ _).trans ?_
      rw [List.replicate_succ', List.map_append]
      rfl
  · have hie : i = g.vars.length := by omega
    subst hie
    repeat (first | refine qqn rfl ?_ | ((first | (refine WK.rgn ?_ ?_; kernel_rfl) | refine AtCall.now ?_); simp (config := {maxSteps:=999999}) only [SS, qx23, forall_const, simprocAttr, f1, f4, b0, gc_1, hil, ff_50]) | refine qqj rfl ?_ | refine qqk rfl ?_)
    clear ih
    refine WK.loop (fun k s => ∃ (i : Nat) (cl : List Nat), Kp n H s.n s.H ∧ y < s.n ∧ s.f 1 = .pointer (some ⟨n, 0, none⟩) ∧ s.f 3 = .slice (some ⟨y, 0, none⟩) g.vars.length g.vars.length ∧ s.f 5 = .int .i64 (i : Nat) ∧ s.H n = .cells (gcells pt pv pr g) 25 true ∧ s.H y = .cells (cl.map natC) 3 true ∧
        i ≤ g.vars.length ∧ cl.length = g.vars.length ∧ BF g c b ord (cF cl) i 0 ∧ k = g.vars.length - i) g.vars.length ?_ ?_
    · refine ⟨0, _, kp, hy5, f1, f3, rfl, b0, hy, Nat.zero_le _, by simp, .start hL fun v hv => ?_, rfl⟩
      unfold cF
      rw [List.getD_eq_getElem?_getD, List.getElem?_replicate]; simp [hv]
    clear f1 f3 f4 b0 hy hw5 hy5 kp
    rintro kk' ⟨f, n6, H6⟩ ⟨i, cl, kp, hy6, f1, f3, f5, b0, hy, hiv, hcl, hBF, rfl⟩ ih
    simp only at f1 f3 f5 ih kp hy6 b0 hy
    by_cases hil : i < g.vars.length
    · have hiw : IntKind.i64.wrap ((i : Int) + 1) = ((i + 1 : Nat) : Int) := by rw [wrap_in (by omega) (by omega)]; rfl
      repeat (first | refine qqn rfl ?_ | ((first | (refine WK.rgn ?_ ?_; kernel_rfl) | refine AtCall.now ?_); simp (config := {maxSteps:=999999}) only [SS, qx23, forall_const, simprocAttr, f1, f5, b0, gc_1, hil, ff_50]) | refine qqj rfl ?_ | refine qqk rfl ?_)
      refine WK.loop (fun k s => ∃ (q : Nat) (cl : List Nat), Kp n H s.n s.H ∧ y < s.n ∧ s.f 1 = .pointer (some ⟨n, 0, none⟩) ∧ s.f 3 = .slice (some ⟨y, 0, none⟩) g.vars.length g.vars.length ∧ s.f 5 = .int .i64 (i : Nat) ∧ s.f 6 = .int .i64 (q : Nat) ∧ s.H n = .cells (gcells pt pv pr g) 25 true ∧ s.H y = .cells (cl.map natC) 3 true ∧
          q ≤ g.rules.length ∧ cl.length = g.vars.length ∧ BF g c b ord (cF cl) i q ∧ k = g.rules.length - q) g.rules.length ?_ ?_
      · exact ⟨0, cl, kp, hy6, f1, f3, f5, rfl, b0, hy, Nat.zero_le _, hcl, hBF, rfl⟩
      clear f1 f3 f5 b0 hy kp hy6 hBF hcl
      rintro kk' ⟨f, n7, H7⟩ ⟨q, cl, kp, hy7, f1, f3, f5, f6, b0, hy, hq, hcl, hBF, rfl⟩ ih2
      simp only at f1 f3 f5 f6 ih2 kp hy7 b0 hy
      by_cases hql : q < g.rules.length
      · have hqw : IntKind.i64.wrap ((q : Int) + 1) = ((q + 1 : Nat) : Int) := by rw [wrap_in (by omega) (by omega)]; rfl
        obtain ⟨z, kz, cs, ty, own, p, e0, hzH, d0, d1, d2, hpH⟩ := hr.at hql
        subst e0
        have hz := (kp.keep z (live_lt hw (live_of hzH))).trans hzH
        have hm := List.getElem_mem hql
        have hlen24 := (ok.rule q hql).len
        have hl0 := (ok.rule q hql).left0
        have hl1 := (ok.rule q hql).left1
        have hp := hpH.mono hw kp
        have hcap : ∀ v, v < g.vars.length → cF cl v ≤ farN := hBF.hi
        repeat (first | refine qqn rfl ?_ | ((first | (refine WK.rgn ?_ ?_; kernel_rfl) | refine AtCall.now ?_); simp (config := {maxSteps:=999999}) only [SS, qx23, forall_const, simprocAttr, f1, f6, b0, gc_2, hql, ff_50]) | refine qqj rfl ?_ | refine qqk rfl ?_)
        refine WK.loop (fun k s => ∃ (j m : Nat), s.n = n7 ∧ s.H = H7 ∧ s.f 1 = .pointer (some ⟨n, 0, none⟩) ∧ s.f 3 = .slice (some ⟨y, 0, none⟩) g.vars.length g.vars.length ∧ s.f 5 = .int .i64 (i : Nat) ∧ s.f 6 = .int .i64 (q : Nat) ∧ s.f 7 = .int .i64 (m : Nat) ∧ s.f 8 = .int .i64 (j : Nat) ∧
            j ≤ g.rules[q].right.length ∧ m = sumF (cF cl) 0 (g.rules[q].right.take j) ∧ m ≤ farN + j ∧ k = g.rules[q].right.length - j) g.rules[q].right.length ?_ ?_
        · exact ⟨0, 0, rfl, rfl, f1, f3, f5, f6, rfl, rfl, Nat.zero_le _, rfl, Nat.zero_le _, rfl⟩
        clear f1 f3 f5 f6
        rintro kk' ⟨f, n8, H8⟩ ⟨j, m, rfl, rfl, f1, f3, f5, f6, f7, f8, hj, hms, hmb, rfl⟩ ih3
        simp only at f1 f3 f5 f6 f7 f8 ih3 kp hy7 b0 hy hz hp
        by_cases hjl : j < g.rules[q].right.length
        · have hjw : IntKind.i64.wrap ((j : Int) + 1) = ((j + 1 : Nat) : Int) := by rw [wrap_in (by omega) (by omega)]; rfl
          obtain ⟨x3, k3', ds, tz3, oz3, e3, hx3, e⟩ := hp.at hjl
          subst e3
          have hlt := hi.right _ hm _ (List.getElem_mem hjl)
          have hsn := sumF_snoc (cF cl) (g.rules[q].right.take j) 0 g.rules[q].right[j]
          rw [← List.take_succ_eq_append_getElem hjl, ← hms] at hsn
          by_cases h0 : 0 ≤ g.rules[q].right[j]
          · obtain ⟨s, hs'⟩ : ∃ s : Nat, g.rules[q].right[j] = s := ⟨g.rules[q].right[j].toNat, by omega⟩
            have hsv : s < g.vars.length := by omega
            have hsl : s < cl.length := by omega
            have hneg : ((s : Int) < 0) = False := by simp
            have hgc : (cl.map natC)[s]? = some (.int .i64 (cl[s] : Nat)) := by rw [List.getElem?_map, List.getElem?_eq_getElem hsl]; rfl
            have hcs : cF cl s = cl[s] := by simp [cF, hsl]
            have hcap' := hcap s hsv
            rw [hs', if_neg (by omega), Int.toNat_natCast] at hsn
            have hadd : IntKind.i64.wrap ((m : Int) + (cl[s] : Nat)) = ((m + cl[s] : Nat) : Int) := by rw [wrap_in (by omega) (by omega)]; omega
            repeat (first | refine qqn rfl ?_ | ((first | (refine WK.rgn ?_ ?_; kernel_rfl) | refine AtCall.now ?_); simp (config := {maxSteps:=999999}) only [SS, qx23, forall_const, simprocAttr, f1, f3, f6, f7, f8, b0, gc_2, hql, hz, d1, hjl, hx3, e, hs', hneg, hsv, hy, hgc, hadd, hjw, aop_min, tmm, Bool.false_eq_true, ff_50]) | refine qqj rfl ?_ | refine qqk rfl ?_)
            refine ih3 (g.rules[q].right.length - (j + 1)) (by omega) _ ⟨j + 1, min (m + cF cl s) farN, rfl, rfl, f1, f3, f5, f6, ?_, ?_, hjl, hsn.symm, by omega, rfl⟩
            · simp only [packed, fset_apply, Nat.reduceEqDiff, ↓reduceIte, List.getD_cons_zero, List.getD_cons_succ, ff_50]
              congr 1
              rw [hfar, hcs]
              split <;> omega
            · simp only [packed, fset_apply, Nat.reduceEqDiff, ↓reduceIte, List.getD_cons_zero, List.getD_cons_succ, f8, hjw, ff_50]
          · have hneg : g.rules[q].right[j] < 0 := by omega
            rw [if_pos hneg] at hsn
            have hadd : IntKind.i64.wrap ((m : Int) + 1) = ((m + 1 : Nat) : Int) := by rw [wrap_in (by omega) (by omega)]; omega
            repeat (first | refine qqn rfl ?_ | ((first | (refine WK.rgn ?_ ?_; kernel_rfl) | refine AtCall.now ?_); simp (config := {maxSteps:=999999}) only [SS, qx23, forall_const, simprocAttr, f1, f6, f7, f8, b0, gc_2, hql, hz, d1, hjl, hx3, e, hneg, hadd, hjw, ff_50]) | refine qqj rfl ?_ | refine qqk rfl ?_)
            refine ih3 (g.rules[q].right.length - (j + 1)) (by omega) _ ⟨j + 1, m + 1, rfl, rfl, f1, f3, f5, f6, rfl, ?_, hjl, hsn.symm, by omega, rfl⟩
            simp only [packed, fset_apply, Nat.reduceEqDiff, ↓reduceIte, List.getD_cons_zero, List.getD_cons_succ, f8, hjw, ff_50]
        · obtain ⟨l, hl⟩ : ∃ l : Nat, g.rules[q].left = l := ⟨g.rules[q].left.toNat, by omega⟩
          have hlv : l < g.vars.length := by omega
          have hll : l < cl.length := by omega
          have hgl : (cl.map natC)[l]? = some (.int .i64 (cl[l] : Nat)) := by rw [List.getElem?_map, List.getElem?_eq_getElem hll]; rfl
          have hcl' : cF cl l = cl[l] := by simp [cF, hll]
          have hll1 : l + 1 ≤ cl.length := hll
          have hmin : (if m < cl[l] then (m : Int) else (cl[l] : Int)) = ((min cl[l] m : Nat) : Int) := by
            split <;> omega
          have hset' : (cl.map natC).set l (.int .i64 ((min cl[l] m : Nat) : Int)) = (cl.set l (min cl[l] m)).map natC := by rw [List.map_set]; rfl
          rw [List.take_of_length_le (by omega)] at hms
          have hsm := sumF_min (cF cl) g.rules[q].right 0 0 rfl
          rw [← hms, Nat.zero_add] at hsm
          repeat (first | refine qqn rfl ?_ | ((first | (refine WK.rgn ?_ ?_; kernel_rfl) | refine AtCall.now ?_); simp (config := {maxSteps:=999999}) only [SS, qx23, forall_const, simprocAttr, f1, f3, f6, f7, f8, b0, gc_2, hql, hz, d0, d1, hjl, hl, hlv, hll1, hy, hgl, hqw, aop_min, tmm, Bool.false_eq_true, hmin, hset', List.length_map, ff_50]) | refine qqj rfl ?_ | refine qqk rfl ?_)
          refine ih2 (g.rules.length - (q + 1)) (by omega) _ ⟨q + 1, cl.set l (min cl[l] m), kp.set _ (by omega) hy7, hy7, f1, f3, f5, ?_, (hset_ne _ _ _ (by omega)).trans b0, hset_at _ _ _, hql, by rw [List.length_set]; exact hcl, hBF.relax hi hL hrk hql hl hsm (fun v => ?_), rfl⟩
          · simp only [packed, fset_apply, Nat.reduceEqDiff, ↓reduceIte, List.getD_cons_zero, List.getD_cons_succ, f6, hqw, ff_50]
          · rw [cF_set hll, hcl']
      · have hqe : q = g.rules.length := by omega
        subst hqe
        repeat (first | refine qqn rfl ?_ | ((first | (refine WK.rgn ?_ ?_; kernel_rfl) | refine AtCall.now ?_); simp (config := {maxSteps:=999999}) only [SS, qx23, forall_const, simprocAttr, f1, f5, f6, b0, gc_2, hql, hiw, ff_50]) | refine qqj rfl ?_ | refine qqk rfl ?_)
        refine ih (g.vars.length - (i + 1)) (by omega) _ ⟨i + 1, cl, kp, hy7, f1, f3, ?_, b0, hy, hil, hcl, hBF.next hrk, rfl⟩
        simp only [packed, fset_apply, Nat.reduceEqDiff, ↓reduceIte, List.getD_cons_zero, List.getD_cons_succ, f5, hiw, ff_50]
    · have hie : i = g.vars.length := by omega
      rw [hie] at hBF
      repeat (first | refine qqn rfl ?_ | ((first | (refine WK.rgn ?_ ?_; kernel_rfl) | refine AtCall.now ?_); simp (config := {maxSteps:=999999}) only [SS, qx23, forall_const, simprocAttr, f1, f3, f5, b0, gc_1, hil, ff_50]) | refine qqj rfl ?_ | refine qqk rfl ?_)
      (first | refine WK.retNil ⟨Or.inr rfl, _, rfl, ?_, ?_⟩ | refine WK.skipNil ⟨Or.inl rfl, _, rfl, ?_, ?_⟩)
      · exact kp.keep
      · simp only [packed, fset_apply, Nat.reduceEqDiff, ↓reduceIte, List.getD_cons_zero, List.getD_cons_succ, f3, ff_50]
        exact ⟨cl, y, by omega, rfl, hcl, hy, hBF.over hi hrk hall⟩
end Go.Proofs.Ytemkglelfeidhaa

namespace Go.Proofs.Ytemkglelfeidhaa
open Go.AM Go.RowKit
set_option maxRecDepth 100000
set_option maxHeartbeats 8000000 in
theorem long_gives {v : Value} {g : Gram} {p : Option Addr} {form : List Int} {n : Nat} {H : Heap} (hw : WF n H) (hg : RG H v g) (wg : WG g) (ok : RightOK g) {c : Nat → Nat} {b : Nat → Int} (hc : CostOK g c b) (hp : RA (Value.int .i64) H p form) (hl : form.length ≤ 1000000) (hs : ∀ s ∈ form, s < g.vars.length) :
    Gives Try.prog 28 [v, .slice p form.length form.length] n H fun v _ _ => v = .int .i64 (sumF c 0 form : Nat) := by
  have hg0 := hg
  obtain ⟨pt, pv, pr, rfl, ht, hv, hr⟩ := hg
  refine Gives.of orders ok28 (Nat.le_of_ble_eq_true rfl) ?_
  have hk := Kp.new n H (.cells (gcells pt pv pr g) 25 true)
  have hb := hset_at H n (.cells (gcells pt pv pr g) 25 true)
  repeat (first | refine qqn rfl ?_)
  (refine WK.rgn ?_ ?_; kernel_rfl; simp (config := {maxSteps:=999999}) only [SS, qx13, forall_const, simprocAttr, box_cells, box_one, ff_28])
  generalize hset H n (.cells (gcells pt pv pr g) 25 true) = H1 at *
  repeat (first | refine qqn rfl ?_ | ((first | (refine WK.rgn ?_ ?_; kernel_rfl) | refine AtCall.now ?_); simp (config := {maxSteps:=999999}) only [SS, qx13, forall_const, simprocAttr, hb, gc_len, gc_all, ff_28]) | refine qqj rfl ?_ | refine qqk rfl ?_)
  refine AtCall.by (costR_gives (hk.wf hw) (hg0.mono hw hk) wg ok hc) ?_
  rintro v n2 H2 k2 ⟨cl, x, hx0, rfl, hcl, hx, hcv⟩
  have kk := hk.trans k2
  have hp2 := hp.mono hw kk
  simp (config := {maxSteps:=999999}) only [SS, qx13, forall_const, simprocAttr, ff_28]
  repeat (first | refine qqn rfl ?_ | ((first | (refine WK.rgn ?_ ?_; kernel_rfl) | refine AtCall.now ?_); simp (config := {maxSteps:=999999}) only [SS, qx13, forall_const, simprocAttr, ff_28]) | refine qqj rfl ?_ | refine qqk rfl ?_)
  refine WK.loop (fun k s => ∃ j : Nat, s.n = n2 ∧ s.H = H2 ∧ s.f 1 = .slice p form.length form.length ∧ s.f 5 = .slice (some ⟨x, 0, none⟩) g.vars.length g.vars.length ∧ s.f 6 = .int .i64 (sumF c 0 (form.take j) : Nat) ∧ s.f 7 = .int .i64 (j : Nat) ∧ j ≤ form.length ∧ k = form.length - j) form.length ?_ ?_
  · exact ⟨0, rfl, rfl, rfl, rfl, rfl, rfl, Nat.zero_le _, rfl⟩
  rintro k ⟨f, n3, H3⟩ ⟨j, rfl, rfl, f1, f5, f6, f7, hj, rfl⟩ ih
  simp only at f1 f5 f6 f7 hx hp2 ih kk k2
  have hfar : farN = 1073741824 := rfl
  by_cases hlt : j < form.length
  · obtain ⟨z, kz, ds, tz, oz, rfl, hz, ez⟩ := hp2.at hlt
    have hjw : IntKind.i64.wrap ((j : Int) + 1) = ((j + 1 : Nat) : Int) := by rw [wrap_in (by omega) (by omega)]; rfl
    have htj : form.take (j + 1) = form.take j ++ [form[j]] := List.take_succ_eq_append_getElem hlt
    have hsn := sumF_snoc c (form.take j) 0 form[j]
    rw [← htj] at hsn
    have hle := sumF_le c (form.take j) 0
    rw [List.length_take] at hle
    have hsv := hs _ (List.getElem_mem hlt)
    generalize sumF c 0 (form.take j) = a at *
    generalize form[j] = t at *
    by_cases h0 : t < 0
    · rw [if_pos h0] at hsn
      have hadd : IntKind.wrap .i64 ((a : Int) + 1) = ((a + 1 : Nat) : Int) := by rw [wrap_in (by omega) (by omega)]; rfl
      repeat (first | refine qqn rfl ?_ | ((first | (refine WK.rgn ?_ ?_; kernel_rfl) | refine AtCall.now ?_); simp (config := {maxSteps:=999999}) only [SS, qx13, forall_const, simprocAttr, f1, f5, f6, f7, hlt, hz, ez, h0, hadd, hjw, ff_28]) | refine qqj rfl ?_ | refine qqk rfl ?_)
      refine ih (form.length - (j + 1)) (by omega) _ ?_
      refine ⟨j + 1, rfl, rfl, f1, f5, ?_, rfl, hlt, rfl⟩
      rw [hsn]; rfl
    · rw [if_neg h0] at hsn
      obtain ⟨q, rfl⟩ := Int.eq_ofNat_of_zero_le (show 0 ≤ t by omega)
      rw [Int.toNat_natCast] at hsn
      have hq : q < g.vars.length := by omega
      have hqc : q < cl.length := by omega
      have hcq : c q = cl[q] := by rw [← hcv q hq]; simp [cF, hqc]
      have hcap := hc.cap q hq
      have e : (cl.map natC)[q]? = some (.int .i64 (c q : Nat)) := by rw [List.getElem?_map, List.getElem?_eq_getElem hqc, hcq]; rfl
      have h0q : ¬ ((q : Int) < 0) := by omega
      have hadd : IntKind.wrap .i64 ((a : Int) + (c q : Int)) = ((a + c q : Nat) : Int) := by rw [wrap_in (by omega) (by omega)]; rfl
      have hmin : (if (1073741824 : Int) < ((a + c q : Nat) : Int) then (1073741824 : Int) else ((a + c q : Nat) : Int)) = ((min (a + c q) farN : Nat) : Int) := by rw [hfar]; split <;> omega
      repeat (first | refine qqn rfl ?_ | ((first | (refine WK.rgn ?_ ?_; kernel_rfl) | refine AtCall.now ?_); simp (config := {maxSteps:=999999}) only [SS, qx13, forall_const, simprocAttr, f1, f5, f6, f7, hlt, hz, ez, h0q, hq, hx, e, Nat.zero_add, hadd, aop_min, tmm, Bool.false_eq_true, hmin, hjw, ff_28]) | refine qqj rfl ?_ | refine qqk rfl ?_)
      refine ih (form.length - (j + 1)) (by omega) _ ?_
      refine ⟨j + 1, rfl, rfl, f1, f5, ?_, rfl, hlt, rfl⟩
      rw [hsn]; rfl
  · repeat (first | refine qqn rfl ?_ | ((first | (refine WK.rgn ?_ ?_; kernel_rfl) | refine AtCall.now ?_); simp (config := {maxSteps:=999999}) only [SS, qx13, forall_const, simprocAttr, f1, f5, f6, f7, hlt, ff_28]) | refine qqj rfl ?_ | refine qqk rfl ?_)
    (first | refine WK.retNil ⟨Or.inr rfl, _, rfl, ?_, ?_⟩ | refine WK.skipNil ⟨Or.inl rfl, _, rfl, ?_, ?_⟩)
    · exact kk.keep
    · simp only [packed, fset_apply, Nat.reduceEqDiff, ↓reduceIte, List.getD_cons_zero, List.getD_cons_succ, f6, ff_28]
      rw [List.take_of_length_le (by omega)]
def RI (H : Heap) (p : Option Addr) (l : List Int) : Prop := ∃ x k ds own, p = some ⟨x, k, none⟩ ∧ H x = .cells ds 3 own ∧ k + l.length ≤ ds.length ∧ ∀ i y, l[i]? = some y → ds[k + i]? = some (.int .i64 y)
def LT (H : Heap) (cs : List Value) (ls : List (List Int)) : Prop := cs.length = ls.length ∧ ∀ (i : Nat) (l : List Int), ls[i]? = some l → ∃ p : Option Addr, cs[i]? = some (Value.slice p l.length l.length) ∧ RI H p l
theorem RI.rs {H : Heap} {p : Option Addr} {l : List Int} (h : RI H p l) : RS (Value.int .i64) H p l := by
  obtain ⟨x, k, ds, own, a, b, c, d⟩ := h
  exact .inr ⟨x, k, ds, _, own, a, b, c, d⟩
theorem RI.keep {H H' : Heap} {p : Option Addr} {l : List Int} (h : RI H p l) (hk : ∀ x ds own, H x = .cells ds 3 own → H' x = H x) : RI H' p l := by
  obtain ⟨x, k, ds, own, a, b, c⟩ := h
  exact ⟨x, k, ds, own, a, (hk x ds own b).trans b, c⟩
theorem LT.keep {H H' : Heap} {cs : List Value} {ls : List (List Int)} (h : LT H cs ls) (hk : ∀ x ds own, H x = .cells ds 3 own → H' x = H x) : LT H' cs ls := ⟨h.1, fun i l hi => by
  obtain ⟨p, a, b⟩ := h.2 i l hi
  exact ⟨p, a, b.keep hk⟩⟩
theorem LT.kp {n n' : Nat} {H H' : Heap} {cs : List Value} {ls : List (List Int)} (h : LT H cs ls) (hw : WF n H) (k : Kp n H n' H') : LT H' cs ls := h.keep fun x ds own e => k.keep x (Classical.byContradiction fun hc => by rw [hw x (by omega)] at e; cases e)
end Go.Proofs.Ytemkglelfeidhaa

namespace Go.Proofs.Ytemkglelfeidhaa
open Go.AM Go.AM.Fo Go.RowKit
set_option maxRecDepth 100000
theorem aop_sl0 {P : Program} {f : Fr} {n : Nat} {H : Heap} {d : Option Nat} {t ty e : TypeId} {x hi : Operand} {p : String} {af : Array Edge} {gd : Option (Nat × Bool)} (he : P.underlying t = some (.slice e)) (hj : (P.info? e).isSome = true)
    (hx : evalA f x = .slice none 0 0) (hh : evalA f hi = .int .i64 0) : aop P (evalA f) n H ⟨d, .slice t x none (some hi) none, ty, p, af, gd⟩ = some { v := .slice none 0 0 } := by
  obtain ⟨j, hj⟩ := Option.isSome_iff_exists.1 hj
  unfold aop
  simp only [hx]
  unfold aslice
  rw [he]
  simp only [hj, Option.map_none, Option.map_some, hh, bound]
  rfl
def RF (H : Heap) (p : Option Addr) (l : List Int) : Prop := (p = none ∧ l = []) ∨ ∃ x k ds ty, p = some ⟨x, k, none⟩ ∧ H x = .cells ds ty false ∧ k + l.length ≤ ds.length ∧ ∀ i y, l[i]? = some y → ds[k + i]? = some (.int .i64 y)
theorem RF.rs {H : Heap} {p : Option Addr} {l : List Int} (h : RF H p l) : RS (Value.int .i64) H p l := by
  rcases h with h | ⟨x, k, ds, ty, a, b, c, d⟩
  · exact .inl h
  · exact .inr ⟨x, k, ds, _, _, a, b, c, d⟩
theorem RF.mono {n n' : Nat} {H H' : Heap} {p : Option Addr} {l : List Int} (h : RF H p l) (hw : WF n H) (k : Kp n H n' H') : RF H' p l := by
  rcases h with h | ⟨x, kx, ds, ty, a, b, c⟩
  · exact .inl h
  · exact .inr ⟨x, kx, ds, ty, a, (k.keep x (Classical.byContradiction fun hc => by rw [hw x (by omega)] at b; cases b)).trans b, c⟩
theorem RF.of {H : Heap} {p : Option Addr} {l : List Int} (h : RS (Value.int .i64) H p l) (hro : AllRO H) : RF H p l := by
  rcases h with h | ⟨x, k, ds, ty, own, a, b, c, d⟩
  · exact .inl h
  · obtain rfl := hro _ _ _ _ b
    exact .inr ⟨x, k, ds, ty, a, b, c, d⟩
theorem begins2_gives {pa pb : Option Addr} {x h : List Int} {n : Nat} {H : Heap} (ha : RF H pa x) (hb : RA (Value.int .i64) H pb h) (hxl : x.length ≤ 1000000) (hhl : h.length ≤ 1000000) :
    Gives Try.prog 29 [.slice pa x.length x.length, .slice pb h.length h.length] n H fun v n' H' => v = .bool (decide (h.length ≤ x.length ∧ x.take h.length = h)) ∧ n' = n ∧ H' = H := by
  refine Gives.of orders ok29 (Nat.le_of_ble_eq_true rfl) ?_
  by_cases hle : h.length ≤ x.length
  · rcases ha with ⟨rfl, rfl⟩ | ⟨z, kz, ds, tz, rfl, hz, hzl, hze⟩
    · have h0 : h = [] := List.length_eq_zero_iff.1 (by simpa using hle)
      subst h0
      have hs := same_gives (n := n) (pa := none) (pb := pb) (a := []) (b := []) (H := H) (fun h => absurd rfl h) hb (by unfold maxL; simp) (by unfold maxL; simp)
      have e1 : ((Try.prog).underlying 26) = some (.slice 3) := by kernel_rfl
      have e2 : ((Try.prog).info? 3).isSome = true := by kernel_rfl
      have l0 : ([] : List Int).length = 0 := rfl
      simp only [l0] at hs ⊢
      repeat (first | refine qqn rfl ?_ | ((first | (refine WK.rgn ?_ ?_; kernel_rfl) | refine AtCall.now ?_); simp (config := {maxSteps:=999999}) only [SS, qx24, forall_const, simprocAttr, aop_sl0 e1 e2, ff_29]) | refine qqj rfl ?_ | refine qqk rfl ?_)
      refine AtCall.by hs ?_
      rintro v n2 H2 k2 ⟨rfl, rfl, rfl⟩
      simp (config := {maxSteps:=999999}) only [SS, qx24, forall_const, simprocAttr, ff_29]
      repeat (first | refine qqn rfl ?_ | ((first | (refine WK.rgn ?_ ?_; kernel_rfl) | refine AtCall.now ?_); simp (config := {maxSteps:=999999}) only [SS, qx24, forall_const, simprocAttr, ff_29]) | refine qqj rfl ?_ | refine qqk rfl ?_)
      (first | refine WK.retNil ⟨Or.inr rfl, _, rfl, ?_, ?_⟩ | refine WK.skipNil ⟨Or.inl rfl, _, rfl, ?_, ?_⟩)
      · exact fun _ _ => rfl
      · simp only [packed, fset_apply, Nat.reduceEqDiff, ↓reduceIte, List.getD_cons_zero, List.getD_cons_succ, ff_29]
        exact ⟨rfl, trivial, trivial⟩
    · repeat (first | refine qqn rfl ?_ | ((first | (refine WK.rgn ?_ ?_; kernel_rfl) | refine AtCall.now ?_); simp (config := {maxSteps:=999999}) only [SS, qx24, forall_const, simprocAttr, hle, hz, implies_true, and_self, Nat.zero_le, Nat.sub_zero, Nat.zero_mul, Nat.add_zero, Bool.false_eq_true, false_imp_iff, ff_29]) | refine qqj rfl ?_ | refine qqk rfl ?_)
      have hl : (x.take h.length).length = h.length := by rw [List.length_take]; omega
      have hr : RA (Value.int .i64) H (some ⟨z, kz, none⟩) (x.take h.length) := fun _ => ⟨z, kz, ds, _, _, rfl, hz, fun i y e => hze i y (by rw [List.getElem?_take] at e; split at e; exact e; cases e)⟩
      have hs := same_gives (n := n) hr hb (by unfold maxL; omega) (by unfold maxL; omega)
      rw [hl] at hs
      refine AtCall.by hs ?_
      rintro v n2 H2 k2 ⟨rfl, rfl, rfl⟩
      simp (config := {maxSteps:=999999}) only [SS, qx24, forall_const, simprocAttr, ff_29]
      repeat (first | refine qqn rfl ?_ | ((first | (refine WK.rgn ?_ ?_; kernel_rfl) | refine AtCall.now ?_); simp (config := {maxSteps:=999999}) only [SS, qx24, forall_const, simprocAttr, ff_29]) | refine qqj rfl ?_ | refine qqk rfl ?_)
      (first | refine WK.retNil ⟨Or.inr rfl, _, rfl, ?_, ?_⟩ | refine WK.skipNil ⟨Or.inl rfl, _, rfl, ?_, ?_⟩)
      · exact fun _ _ => rfl
      · simp only [packed, fset_apply, Nat.reduceEqDiff, ↓reduceIte, List.getD_cons_zero, List.getD_cons_succ, ff_29]
        refine ⟨?_, trivial, trivial⟩
        congr 1
        rw [Bool.eq_iff_iff, same_iff3, decide_eq_true_eq]
  · have hle' : ¬ ((h.length : Int) ≤ (x.length : Int)) := by omega
    repeat (first | refine qqn rfl ?_ | ((first | (refine WK.rgn ?_ ?_; kernel_rfl) | refine AtCall.now ?_); simp (config := {maxSteps:=999999}) only [SS, qx24, forall_const, simprocAttr, hle, ff_29]) | refine qqj rfl ?_ | refine qqk rfl ?_)
    (first | refine WK.retNil ⟨Or.inr rfl, _, rfl, ?_, ?_⟩ | refine WK.skipNil ⟨Or.inl rfl, _, rfl, ?_, ?_⟩)
    · exact fun _ _ => rfl
    · simp only [packed, fset_apply, Nat.reduceEqDiff, ↓reduceIte, List.getD_cons_zero, List.getD_cons_succ, ff_29]
      simp [hle]
theorem form_split' (F : List Int) : (F.dropWhile AM.neg = [] ∧ ∀ s ∈ F, s < 0) ∨ ∃ t v rest, F = t ++ v :: rest ∧ (∀ s ∈ t, s < 0) ∧ 0 ≤ v ∧ F.takeWhile AM.neg = t ∧ F.dropWhile AM.neg = v :: rest := by
  have e := List.takeWhile_append_dropWhile (p := AM.neg) (l := F)
  cases hd : F.dropWhile AM.neg with
  | nil =>
    left
    rw [hd, List.append_nil] at e
    exact ⟨rfl, fun s hs => by rw [← e] at hs; exact takeWhile_neg hs⟩
  | cons v rest =>
    right
    rw [hd] at e
    refine ⟨_, v, rest, e.symm, fun s hs => takeWhile_neg hs, ?_, rfl, rfl⟩
    have := List.head?_dropWhile_not AM.neg F
    rw [hd] at this
    simp [AM.neg] at this
    omega
theorem replay_sym {g : Gram} {Q : Int → Prop} (hq : ∀ r ∈ g.rules, ∀ s ∈ r.right, Q s) : ∀ (t f : List Int) (k : Nat) (f' : List Int) (q : Nat), (∀ s ∈ f, Q s) → replayS g f t k = (f', q, 0) → ∀ s ∈ f', Q s
  | [], f, k, f', q, hf, h => by simp [replayS] at h; obtain ⟨rfl, _⟩ := h; exact hf
  | r :: t, f, k, f', q, hf, h => by
    simp only [replayS] at h
    split at h
    · rename_i he
      refine replay_sym hq t _ _ f' q ?_ h
      obtain ⟨i, hi, a, rest, _, e2, e3, _⟩ := stepS_ok (g := g) (form := f) (r := r) (form' := (stepS g f r).1) (by rw [← he])
      rw [e3]
      intro s hs
      rcases List.mem_append.1 hs with hs | hs
      · rcases List.mem_append.1 hs with hs | hs
        · exact hf s (by rw [e2]; simp [hs])
        · exact hq _ (List.getElem_mem hi) s hs
      · exact hf s (by rw [e2]; simp [hs])
    · rename_i he
      simp at h
      exact absurd h.2.2 he
theorem dv_all {g : Gram} (hg : InG g) {f w : List Int} (h : Dv g f [] w) : ∀ s ∈ f, s < 0 := by
  intro s hs
  apply Classical.byContradiction
  intro h0
  rcases form_split' f with ⟨_, hn⟩ | ⟨t, v, rest, rfl, ht, hv, _, _⟩
  · exact h0 (hn s hs)
  · obtain ⟨d1, d2, w1, w2, e1, e2, h1, h2⟩ := h.split (a := t) (b := v :: rest) rfl
    obtain ⟨rfl, rfl⟩ := List.append_eq_nil_iff.1 e1.symm
    obtain ⟨i, d1, d2, w1, w2, _, _, e3, _⟩ := h2.var_inv hv
    cases e3
theorem LT.dead {H : Heap} {cs : List Value} {ls : List (List Int)} {z : Nat} {cz : List Value} (h : LT H cs ls) (hz : H z = .cells cz 26 true) : LT (hset H z .dead) cs ls := h.keep fun x ds own e => hset_ne _ _ _ (by rintro rfl; rw [hz] at e; cases e)
theorem LT.push {H : Heap} {cs : List Value} {ls : List (List Int)} {p : Option Addr} {l : List Int} (h : LT H cs ls) (hp : RI H p l) : LT H (cs ++ [.slice p l.length l.length]) (ls ++ [l]) := by
  refine ⟨by simp [h.1], fun i x hx => ?_⟩
  rcases Nat.lt_or_ge i ls.length with hi | hi
  · rw [List.getElem?_append_left hi] at hx
    rw [List.getElem?_append_left (by rw [h.1]; exact hi)]
    exact h.2 i x hx
  · rw [List.getElem?_append_right hi] at hx
    cases hq : i - ls.length with
    | succ q => rw [hq] at hx; simp at hx
    | zero =>
      rw [hq] at hx
      simp at hx
      subst hx
      have : i = cs.length := by rw [h.1]; omega
      subst this
      exact ⟨p, by simp, hp⟩
end Go.Proofs.Ytemkglelfeidhaa
