/- A part of a proof. Its conditions: none. -/
import Derived.Test.YtihjaobjhmmboaaGreatDoorAmUUseRef
set_option linter.all false
namespace Go.Proofs.YtihjaobjhmmboaaGreatDoor
open Go.AM
set_option maxRecDepth 100000

set_option maxHeartbeats 8000000 in
/-- The document's rounds: what comes is what Cost tells. -/
theorem costR_gives {v : Value} {g : Gram} {n : Nat} {H : Heap} (hw : WF n H) (hg : RG H v g) (wg : WG g) (ok : RightOK g) {c : Nat → Nat} {b : Nat → Int} (hc : CostOK g c b) :
    Gives Tryz.prog 13 [v] n H fun v _ H' => ∃ (cl : List Nat) (x : Nat), n ≤ x ∧ v = .slice (some ⟨x, 0, none⟩) g.vars.length g.vars.length ∧ cl.length = g.vars.length ∧ H' x = .cells (cl.map natC) 3 true ∧ ∀ v, v < g.vars.length → cF cl v = c v := by
  have hg0 := hg
  obtain ⟨pt, pv, pr, rfl, ht, hv, hr⟩ := hg
  refine Gives.of orders ok13 (Nat.le_of_ble_eq_true rfl) ?_
  have hk := Kp.new n H (.cells (gcells pt pv pr g) 25 true)
  have hb := hset_at H n (.cells (gcells pt pv pr g) 25 true)
  have hi := ok.inG
  have hv64 := ok.vars
  have hv1 := ok.vars1
  have hrl := ok.rules
  have hfar : farN = 1073741824 := rfl
  have hL := hc.rel hi
  obtain ⟨ord, hrk, hall⟩ := hc.ranked
-- function 13
  repeat (first | apply WK.seq | apply WK.block | apply WK.skipSeq | apply WK.skipBlock | apply WK.retSeq | apply WK.retBlock | apply WK.exitSeq | apply WK.exitHere | refine WK.exitOn rfl ?_)
  (refine WK.rgn ?_ ?_; kernel_rfl; simp (config := { maxSteps := 1000000 }) only [SS, forall_const, wx, tguard, acallee, top, tval, fput, tor, vsh, vbin, tload, tload2, tload3, tstore, tstore2, tstore3, Go.AM.splice, one, tidx, tidx2, tidx3, tfa, tfa2, tlen2, tbox, tbs, tbs2, afill, tap, tap2, tap3, tap4, tsrc, tsrc2, Int.reduceEq, Int.reduceNeg, Nat.reduceGT, Nat.reduceLT, Nat.reduceLeDiff, Nat.reduceEqDiff, ↓reduceIte, reduceCtorEq, Int.reduceToNat, Int.reduceLE, Int.reduceLT, Nat.reduceAdd, Nat.reduceMul, box_cells, box_one, ff_13])
  generalize hset H n (.cells (gcells pt pv pr g) 25 true) = H1 at *
  repeat (first | apply WK.seq | apply WK.block | apply WK.skipSeq | apply WK.skipBlock | apply WK.retSeq | apply WK.retBlock | apply WK.exitSeq | apply WK.exitHere | refine WK.exitOn rfl ?_ | ((first | (refine WK.rgn ?_ ?_; kernel_rfl) | refine AtCall.now ?_); simp (config := { maxSteps := 1000000 }) only [SS, forall_const, wx, tguard, acallee, top, tval, fput, tor, vsh, vbin, tload, tload2, tload3, tstore, tstore2, tstore3, Go.AM.splice, one, tidx, tidx2, tidx3, tfa, tfa2, tlen2, tbox, tbs, tbs2, afill, tap, tap2, tap3, tap4, tsrc, tsrc2, Int.reduceEq, Int.reduceNeg, Nat.reduceGT, Nat.reduceLT, Nat.reduceLeDiff, Nat.reduceEqDiff, ↓reduceIte, reduceCtorEq, Int.reduceToNat, Int.reduceLE, Int.reduceLT, Nat.reduceAdd, Nat.reduceMul, ff_13]) | (refine WK.condT ?_ ?_; focus (simp only [ev_tmp, ev_const, fset_apply, Nat.reduceEqDiff, ↓reduceIte, decide_true, decide_false, ff_13]; done)) | (refine WK.condF ?_ ?_; focus (simp only [ev_tmp, ev_const, fset_apply, Nat.reduceEqDiff, ↓reduceIte, decide_true, decide_false, ff_13]; done)))
  have k1 := hk.trans (Kp.new (n + 1) H1 (.cells [] 3 true))
  have b0 := ((Kp.new (n + 1) H1 (.cells [] 3 true)).keep n (by omega)).trans hb
  have b1 := hset_at H1 (n + 1) (.cells [] 3 true)
  generalize hset H1 (n + 1) (.cells [] 3 true) = H2 at *
  refine WK.loop (fun k s => ∃ (i y : Nat), Kp n H s.n s.H ∧ s.f 1 = .pointer (some ⟨n, 0, none⟩) ∧ s.f 3 = .slice (some ⟨y, 0, none⟩) i i ∧ s.f 4 = .int .i64 (i : Nat) ∧ s.H n = .cells (gcells pt pv pr g) 25 true ∧ s.H y = .cells ((List.replicate i farN).map natC) 3 true ∧ n < y ∧ i ≤ g.vars.length ∧ k = g.vars.length - i) g.vars.length ?_ ?_
  · exact ⟨0, n + 1, k1, rfl, rfl, rfl, b0, b1, Nat.lt_succ_self _, Nat.zero_le _, rfl⟩
  clear k1 b0 b1
  rintro kk' ⟨f, n5, H5⟩ ⟨i, y, kp, f1, f3, f4, b0, hy, hyn, hiv, rfl⟩ ih
  simp only at f1 f3 f4 ih kp b0 hy
  have hw5 := kp.wf hw
  have hy5 := live_lt hw5 (live_of hy)
  by_cases hil : i < g.vars.length
  · have hiw : IntKind.i64.wrap ((i : Int) + 1) = ((i + 1 : Nat) : Int) := by rw [wrap_in (by omega) (by omega)]; rfl
    have v1 : i ≤ ((List.replicate i farN).map natC).length := by simp
    have v2 : [n5].contains y = false := by simp; omega
    have v3 : i + 1 ≤ bigN := by unfold bigN; omega
    have v5 : ∀ o, hset H5 n5 o y = _ := fun o => (hset_ne _ _ _ (by omega)).trans hy
    have v6 : ((List.replicate i farN).map natC).take i = (List.replicate i farN).map natC := List.take_of_length_le (by simp)
    repeat (first | apply WK.seq | apply WK.block | apply WK.skipSeq | apply WK.skipBlock | apply WK.retSeq | apply WK.retBlock | apply WK.exitSeq | apply WK.exitHere | refine WK.exitOn rfl ?_ | ((first | (refine WK.rgn ?_ ?_; kernel_rfl) | refine AtCall.now ?_); simp (config := { maxSteps := 1000000 }) only [SS, forall_const, wx, tguard, acallee, top, tval, fput, tor, vsh, vbin, tload, tload2, tload3, tstore, tstore2, tstore3, Go.AM.splice, one, tidx, tidx2, tidx3, tfa, tfa2, tlen2, tbox, tbs, tbs2, afill, tap, tap2, tap3, tap4, tsrc, tsrc2, Int.reduceEq, Int.reduceNeg, Nat.reduceGT, Nat.reduceLT, Nat.reduceLeDiff, Nat.reduceEqDiff, ↓reduceIte, reduceCtorEq, Int.reduceToNat, Int.reduceLE, Int.reduceLT, Nat.reduceAdd, Nat.reduceMul, f1, f3, f4, b0, gc_1, hil, hiw, v1, v2, v3, v5, v6, List.drop_zero, ff_13]) | (refine WK.condT ?_ ?_; focus (simp only [ev_tmp, ev_const, fset_apply, Nat.reduceEqDiff, ↓reduceIte, decide_true, decide_false, f1, f3, f4, b0, gc_1, hil, hiw, v1, v2, v3, v5, v6, List.drop_zero, ff_13]; done)) | (refine WK.condF ?_ ?_; focus (simp only [ev_tmp, ev_const, fset_apply, Nat.reduceEqDiff, ↓reduceIte, decide_true, decide_false, f1, f3, f4, b0, gc_1, hil, hiw, v1, v2, v3, v5, v6, List.drop_zero, ff_13]; done)))
    have kq := ((kp.trans (Kp.new n5 H5 (.cells [.int .i64 1073741824] 3 true))).set (x := y) .dead (by omega) (by omega)).trans (Kp.new (n5 + 1) _ (.cells ((List.replicate i farN).map natC ++ [.int .i64 1073741824]) 3 true))
    refine ih (g.vars.length - (i + 1)) (by omega) _ ⟨i + 1, n5 + 1, kq, f1, rfl, ?_, ?_, ?_, by have := kp.le; omega, hil, rfl⟩
    · simp only [packed, fset_apply, Nat.reduceEqDiff, ↓reduceIte, List.getD_cons_zero, List.getD_cons_succ, f4, hiw, ff_13]
    · have := live_lt hw5 (live_of b0)
      exact (hset_ne _ _ _ (by omega)).trans ((hset_ne _ _ _ (by omega)).trans ((hset_ne _ _ _ (by omega)).trans b0))
    · refine (hset_at _ _ _).trans ?_
      rw [List.replicate_succ', List.map_append]
      rfl
  · have hie : i = g.vars.length := by omega
    subst hie
    repeat (first | apply WK.seq | apply WK.block | apply WK.skipSeq | apply WK.skipBlock | apply WK.retSeq | apply WK.retBlock | apply WK.exitSeq | apply WK.exitHere | refine WK.exitOn rfl ?_ | ((first | (refine WK.rgn ?_ ?_; kernel_rfl) | refine AtCall.now ?_); simp (config := { maxSteps := 1000000 }) only [SS, forall_const, wx, tguard, acallee, top, tval, fput, tor, vsh, vbin, tload, tload2, tload3, tstore, tstore2, tstore3, Go.AM.splice, one, tidx, tidx2, tidx3, tfa, tfa2, tlen2, tbox, tbs, tbs2, afill, tap, tap2, tap3, tap4, tsrc, tsrc2, Int.reduceEq, Int.reduceNeg, Nat.reduceGT, Nat.reduceLT, Nat.reduceLeDiff, Nat.reduceEqDiff, ↓reduceIte, reduceCtorEq, Int.reduceToNat, Int.reduceLE, Int.reduceLT, Nat.reduceAdd, Nat.reduceMul, f1, f4, b0, gc_1, hil, ff_13]) | (refine WK.condT ?_ ?_; focus (simp only [ev_tmp, ev_const, fset_apply, Nat.reduceEqDiff, ↓reduceIte, decide_true, decide_false, f1, f4, b0, gc_1, hil, ff_13]; done)) | (refine WK.condF ?_ ?_; focus (simp only [ev_tmp, ev_const, fset_apply, Nat.reduceEqDiff, ↓reduceIte, decide_true, decide_false, f1, f4, b0, gc_1, hil, ff_13]; done)))
    clear ih
    refine WK.loop (fun k s => ∃ (i : Nat) (cl : List Nat), Kp n H s.n s.H ∧ y < s.n ∧ s.f 1 = .pointer (some ⟨n, 0, none⟩) ∧ s.f 3 = .slice (some ⟨y, 0, none⟩) g.vars.length g.vars.length ∧ s.f 5 = .int .i64 (i : Nat) ∧ s.H n = .cells (gcells pt pv pr g) 25 true ∧ s.H y = .cells (cl.map natC) 3 true ∧
        i ≤ g.vars.length ∧ cl.length = g.vars.length ∧ BF g c b ord (cF cl) i 0 ∧ k = g.vars.length - i) g.vars.length ?_ ?_
    · refine ⟨0, _, kp, hy5, f1, f3, rfl, b0, hy, Nat.zero_le _, by simp, .start hL fun v hv => ?_, rfl⟩
      unfold cF
      rw [List.getD_eq_getElem?_getD, List.getElem?_replicate]; simp [hv]
    clear f1 f3 f4 b0 hy hw5 hy5 kp
    rintro kk' ⟨f, n6, H6⟩ ⟨i, cl, kp, hy6, f1, f3, f5, b0, hy, hiv, hcl, hBF, rfl⟩ ih
    simp only at f1 f3 f5 ih kp hy6 b0 hy
    by_cases hil : i < g.vars.length
    · have hiw : IntKind.i64.wrap ((i : Int) + 1) = ((i + 1 : Nat) : Int) := by rw [wrap_in (by omega) (by omega)]; rfl
      repeat (first | apply WK.seq | apply WK.block | apply WK.skipSeq | apply WK.skipBlock | apply WK.retSeq | apply WK.retBlock | apply WK.exitSeq | apply WK.exitHere | refine WK.exitOn rfl ?_ | ((first | (refine WK.rgn ?_ ?_; kernel_rfl) | refine AtCall.now ?_); simp (config := { maxSteps := 1000000 }) only [SS, forall_const, wx, tguard, acallee, top, tval, fput, tor, vsh, vbin, tload, tload2, tload3, tstore, tstore2, tstore3, Go.AM.splice, one, tidx, tidx2, tidx3, tfa, tfa2, tlen2, tbox, tbs, tbs2, afill, tap, tap2, tap3, tap4, tsrc, tsrc2, Int.reduceEq, Int.reduceNeg, Nat.reduceGT, Nat.reduceLT, Nat.reduceLeDiff, Nat.reduceEqDiff, ↓reduceIte, reduceCtorEq, Int.reduceToNat, Int.reduceLE, Int.reduceLT, Nat.reduceAdd, Nat.reduceMul, f1, f5, b0, gc_1, hil, ff_13]) | (refine WK.condT ?_ ?_; focus (simp only [ev_tmp, ev_const, fset_apply, Nat.reduceEqDiff, ↓reduceIte, decide_true, decide_false, f1, f5, b0, gc_1, hil, ff_13]; done)) | (refine WK.condF ?_ ?_; focus (simp only [ev_tmp, ev_const, fset_apply, Nat.reduceEqDiff, ↓reduceIte, decide_true, decide_false, f1, f5, b0, gc_1, hil, ff_13]; done)))
      refine WK.loop (fun k s => ∃ (q : Nat) (cl : List Nat), Kp n H s.n s.H ∧ y < s.n ∧ s.f 1 = .pointer (some ⟨n, 0, none⟩) ∧ s.f 3 = .slice (some ⟨y, 0, none⟩) g.vars.length g.vars.length ∧ s.f 5 = .int .i64 (i : Nat) ∧ s.f 6 = .int .i64 (q : Nat) ∧ s.H n = .cells (gcells pt pv pr g) 25 true ∧ s.H y = .cells (cl.map natC) 3 true ∧
          q ≤ g.rules.length ∧ cl.length = g.vars.length ∧ BF g c b ord (cF cl) i q ∧ k = g.rules.length - q) g.rules.length ?_ ?_
      · exact ⟨0, cl, kp, hy6, f1, f3, f5, rfl, b0, hy, Nat.zero_le _, hcl, hBF, rfl⟩
      clear f1 f3 f5 b0 hy kp hy6 hBF hcl
      rintro kk' ⟨f, n7, H7⟩ ⟨q, cl, kp, hy7, f1, f3, f5, f6, b0, hy, hq, hcl, hBF, rfl⟩ ih2
      simp only at f1 f3 f5 f6 ih2 kp hy7 b0 hy
      by_cases hql : q < g.rules.length
      · have hqw : IntKind.i64.wrap ((q : Int) + 1) = ((q + 1 : Nat) : Int) := by rw [wrap_in (by omega) (by omega)]; rfl
        obtain ⟨z, kz, cs, ty, own, p, e0, hzH, d0, d1, d2, hpH⟩ := hr.at hql
        subst e0
        have hz := (kp.keep z (live_lt hw (live_of hzH))).trans hzH
        have hm := List.getElem_mem hql
        have hlen24 := (ok.rule q hql).len
        have hl0 := (ok.rule q hql).left0
        have hl1 := (ok.rule q hql).left1
        have hp := hpH.mono hw kp
        have hcap : ∀ v, v < g.vars.length → cF cl v ≤ farN := hBF.hi
        repeat (first | apply WK.seq | apply WK.block | apply WK.skipSeq | apply WK.skipBlock | apply WK.retSeq | apply WK.retBlock | apply WK.exitSeq | apply WK.exitHere | refine WK.exitOn rfl ?_ | ((first | (refine WK.rgn ?_ ?_; kernel_rfl) | refine AtCall.now ?_); simp (config := { maxSteps := 1000000 }) only [SS, forall_const, wx, tguard, acallee, top, tval, fput, tor, vsh, vbin, tload, tload2, tload3, tstore, tstore2, tstore3, Go.AM.splice, one, tidx, tidx2, tidx3, tfa, tfa2, tlen2, tbox, tbs, tbs2, afill, tap, tap2, tap3, tap4, tsrc, tsrc2, Int.reduceEq, Int.reduceNeg, Nat.reduceGT, Nat.reduceLT, Nat.reduceLeDiff, Nat.reduceEqDiff, ↓reduceIte, reduceCtorEq, Int.reduceToNat, Int.reduceLE, Int.reduceLT, Nat.reduceAdd, Nat.reduceMul, f1, f6, b0, gc_2, hql, ff_13]) | (refine WK.condT ?_ ?_; focus (simp only [ev_tmp, ev_const, fset_apply, Nat.reduceEqDiff, ↓reduceIte, decide_true, decide_false, f1, f6, b0, gc_2, hql, ff_13]; done)) | (refine WK.condF ?_ ?_; focus (simp only [ev_tmp, ev_const, fset_apply, Nat.reduceEqDiff, ↓reduceIte, decide_true, decide_false, f1, f6, b0, gc_2, hql, ff_13]; done)))
        refine WK.loop (fun k s => ∃ (j m : Nat), s.n = n7 ∧ s.H = H7 ∧ s.f 1 = .pointer (some ⟨n, 0, none⟩) ∧ s.f 3 = .slice (some ⟨y, 0, none⟩) g.vars.length g.vars.length ∧ s.f 5 = .int .i64 (i : Nat) ∧ s.f 6 = .int .i64 (q : Nat) ∧ s.f 7 = .int .i64 (m : Nat) ∧ s.f 8 = .int .i64 (j : Nat) ∧
            j ≤ g.rules[q].right.length ∧ m = sumF (cF cl) 0 (g.rules[q].right.take j) ∧ m ≤ farN + j ∧ k = g.rules[q].right.length - j) g.rules[q].right.length ?_ ?_
        · exact ⟨0, 0, rfl, rfl, f1, f3, f5, f6, rfl, rfl, Nat.zero_le _, rfl, Nat.zero_le _, rfl⟩
        clear f1 f3 f5 f6
        rintro kk' ⟨f, n8, H8⟩ ⟨j, m, rfl, rfl, f1, f3, f5, f6, f7, f8, hj, hms, hmb, rfl⟩ ih3
        simp only at f1 f3 f5 f6 f7 f8 ih3 kp hy7 b0 hy hz hp
        by_cases hjl : j < g.rules[q].right.length
        · have hjw : IntKind.i64.wrap ((j : Int) + 1) = ((j + 1 : Nat) : Int) := by rw [wrap_in (by omega) (by omega)]; rfl
          obtain ⟨x3, k3', ds, tz3, oz3, e3, hx3, e⟩ := hp.at hjl
          subst e3
          have hlt := hi.right _ hm _ (List.getElem_mem hjl)
          have hsn := sumF_snoc (cF cl) (g.rules[q].right.take j) 0 g.rules[q].right[j]
          rw [← List.take_succ_eq_append_getElem hjl, ← hms] at hsn
          by_cases h0 : 0 ≤ g.rules[q].right[j]
          · obtain ⟨s, hs'⟩ : ∃ s : Nat, g.rules[q].right[j] = s := ⟨g.rules[q].right[j].toNat, by omega⟩
            have hsv : s < g.vars.length := by omega
            have hsl : s < cl.length := by omega
            have hneg : ((s : Int) < 0) = False := by simp
            have hgc : (cl.map natC)[s]? = some (.int .i64 (cl[s] : Nat)) := by rw [List.getElem?_map, List.getElem?_eq_getElem hsl]; rfl
            have hcs : cF cl s = cl[s] := by simp [cF, hsl]
            have hcap' := hcap s hsv
            rw [hs', if_neg (by omega), Int.toNat_natCast] at hsn
            have hadd : IntKind.i64.wrap ((m : Int) + (cl[s] : Nat)) = ((m + cl[s] : Nat) : Int) := by rw [wrap_in (by omega) (by omega)]; omega
            repeat (first | apply WK.seq | apply WK.block | apply WK.skipSeq | apply WK.skipBlock | apply WK.retSeq | apply WK.retBlock | apply WK.exitSeq | apply WK.exitHere | refine WK.exitOn rfl ?_ | ((first | (refine WK.rgn ?_ ?_; kernel_rfl) | refine AtCall.now ?_); simp (config := { maxSteps := 1000000 }) only [SS, forall_const, wx, tguard, acallee, top, tval, fput, tor, vsh, vbin, tload, tload2, tload3, tstore, tstore2, tstore3, Go.AM.splice, one, tidx, tidx2, tidx3, tfa, tfa2, tlen2, tbox, tbs, tbs2, afill, tap, tap2, tap3, tap4, tsrc, tsrc2, Int.reduceEq, Int.reduceNeg, Nat.reduceGT, Nat.reduceLT, Nat.reduceLeDiff, Nat.reduceEqDiff, ↓reduceIte, reduceCtorEq, Int.reduceToNat, Int.reduceLE, Int.reduceLT, Nat.reduceAdd, Nat.reduceMul, f1, f3, f6, f7, f8, b0, gc_2, hql, hz, d1, hjl, hx3, e, hs', hneg, hsv, hy, hgc, hadd, hjw, aop_min, tmm, Bool.false_eq_true, ff_13]) | (refine WK.condT ?_ ?_; focus (simp only [ev_tmp, ev_const, fset_apply, Nat.reduceEqDiff, ↓reduceIte, decide_true, decide_false, f1, f3, f6, f7, f8, b0, gc_2, hql, hz, d1, hjl, hx3, e, hs', hneg, hsv, hy, hgc, hadd, hjw, aop_min, tmm, Bool.false_eq_true, ff_13]; done)) | (refine WK.condF ?_ ?_; focus (simp only [ev_tmp, ev_const, fset_apply, Nat.reduceEqDiff, ↓reduceIte, decide_true, decide_false, f1, f3, f6, f7, f8, b0, gc_2, hql, hz, d1, hjl, hx3, e, hs', hneg, hsv, hy, hgc, hadd, hjw, aop_min, tmm, Bool.false_eq_true, ff_13]; done)))
            refine ih3 (g.rules[q].right.length - (j + 1)) (by omega) _ ⟨j + 1, min (m + cF cl s) farN, rfl, rfl, f1, f3, f5, f6, ?_, ?_, hjl, hsn.symm, by omega, rfl⟩
            · simp only [packed, fset_apply, Nat.reduceEqDiff, ↓reduceIte, List.getD_cons_zero, List.getD_cons_succ, ff_13]
              congr 1
              rw [hfar, hcs]
              split <;> omega
            · simp only [packed, fset_apply, Nat.reduceEqDiff, ↓reduceIte, List.getD_cons_zero, List.getD_cons_succ, f8, hjw, ff_13]
          · have hneg : g.rules[q].right[j] < 0 := by omega
            rw [if_pos hneg] at hsn
            have hadd : IntKind.i64.wrap ((m : Int) + 1) = ((m + 1 : Nat) : Int) := by rw [wrap_in (by omega) (by omega)]; omega
            repeat (first | apply WK.seq | apply WK.block | apply WK.skipSeq | apply WK.skipBlock | apply WK.retSeq | apply WK.retBlock | apply WK.exitSeq | apply WK.exitHere | refine WK.exitOn rfl ?_ | ((first | (refine WK.rgn ?_ ?_; kernel_rfl) | refine AtCall.now ?_); simp (config := { maxSteps := 1000000 }) only [SS, forall_const, wx, tguard, acallee, top, tval, fput, tor, vsh, vbin, tload, tload2, tload3, tstore, tstore2, tstore3, Go.AM.splice, one, tidx, tidx2, tidx3, tfa, tfa2, tlen2, tbox, tbs, tbs2, afill, tap, tap2, tap3, tap4, tsrc, tsrc2, Int.reduceEq, Int.reduceNeg, Nat.reduceGT, Nat.reduceLT, Nat.reduceLeDiff, Nat.reduceEqDiff, ↓reduceIte, reduceCtorEq, Int.reduceToNat, Int.reduceLE, Int.reduceLT, Nat.reduceAdd, Nat.reduceMul, f1, f6, f7, f8, b0, gc_2, hql, hz, d1, hjl, hx3, e, hneg, hadd, hjw, ff_13]) | (refine WK.condT ?_ ?_; focus (simp only [ev_tmp, ev_const, fset_apply, Nat.reduceEqDiff, ↓reduceIte, decide_true, decide_false, f1, f6, f7, f8, b0, gc_2, hql, hz, d1, hjl, hx3, e, hneg, hadd, hjw, ff_13]; done)) | (refine WK.condF ?_ ?_; focus (simp only [ev_tmp, ev_const, fset_apply, Nat.reduceEqDiff, ↓reduceIte, decide_true, decide_false, f1, f6, f7, f8, b0, gc_2, hql, hz, d1, hjl, hx3, e, hneg, hadd, hjw, ff_13]; done)))
            refine ih3 (g.rules[q].right.length - (j + 1)) (by omega) _ ⟨j + 1, m + 1, rfl, rfl, f1, f3, f5, f6, rfl, ?_, hjl, hsn.symm, by omega, rfl⟩
            simp only [packed, fset_apply, Nat.reduceEqDiff, ↓reduceIte, List.getD_cons_zero, List.getD_cons_succ, f8, hjw, ff_13]
        · obtain ⟨l, hl⟩ : ∃ l : Nat, g.rules[q].left = l := ⟨g.rules[q].left.toNat, by omega⟩
          have hlv : l < g.vars.length := by omega
          have hll : l < cl.length := by omega
          have hgl : (cl.map natC)[l]? = some (.int .i64 (cl[l] : Nat)) := by rw [List.getElem?_map, List.getElem?_eq_getElem hll]; rfl
          have hcl' : cF cl l = cl[l] := by simp [cF, hll]
          have hll1 : l + 1 ≤ cl.length := hll
          have hmin : (if m < cl[l] then (m : Int) else (cl[l] : Int)) = ((min cl[l] m : Nat) : Int) := by
            split <;> omega
          have hset' : (cl.map natC).set l (.int .i64 ((min cl[l] m : Nat) : Int)) = (cl.set l (min cl[l] m)).map natC := by rw [List.map_set]; rfl
          rw [List.take_of_length_le (by omega)] at hms
          have hsm := sumF_min (cF cl) g.rules[q].right 0 0 rfl
          rw [← hms, Nat.zero_add] at hsm
          repeat (first | apply WK.seq | apply WK.block | apply WK.skipSeq | apply WK.skipBlock | apply WK.retSeq | apply WK.retBlock | apply WK.exitSeq | apply WK.exitHere | refine WK.exitOn rfl ?_ | ((first | (refine WK.rgn ?_ ?_; kernel_rfl) | refine AtCall.now ?_); simp (config := { maxSteps := 1000000 }) only [SS, forall_const, wx, tguard, acallee, top, tval, fput, tor, vsh, vbin, tload, tload2, tload3, tstore, tstore2, tstore3, Go.AM.splice, one, tidx, tidx2, tidx3, tfa, tfa2, tlen2, tbox, tbs, tbs2, afill, tap, tap2, tap3, tap4, tsrc, tsrc2, Int.reduceEq, Int.reduceNeg, Nat.reduceGT, Nat.reduceLT, Nat.reduceLeDiff, Nat.reduceEqDiff, ↓reduceIte, reduceCtorEq, Int.reduceToNat, Int.reduceLE, Int.reduceLT, Nat.reduceAdd, Nat.reduceMul, f1, f3, f6, f7, f8, b0, gc_2, hql, hz, d0, d1, hjl, hl, hlv, hll1, hy, hgl, hqw, aop_min, tmm, Bool.false_eq_true, hmin, hset', List.length_map, ff_13]) | (refine WK.condT ?_ ?_; focus (simp only [ev_tmp, ev_const, fset_apply, Nat.reduceEqDiff, ↓reduceIte, decide_true, decide_false, f1, f3, f6, f7, f8, b0, gc_2, hql, hz, d0, d1, hjl, hl, hlv, hll1, hy, hgl, hqw, aop_min, tmm, Bool.false_eq_true, hmin, hset', List.length_map, ff_13]; done)) | (refine WK.condF ?_ ?_; focus (simp only [ev_tmp, ev_const, fset_apply, Nat.reduceEqDiff, ↓reduceIte, decide_true, decide_false, f1, f3, f6, f7, f8, b0, gc_2, hql, hz, d0, d1, hjl, hl, hlv, hll1, hy, hgl, hqw, aop_min, tmm, Bool.false_eq_true, hmin, hset', List.length_map, ff_13]; done)))
          refine ih2 (g.rules.length - (q + 1)) (by omega) _ ⟨q + 1, cl.set l (min cl[l] m), kp.set _ (by omega) hy7, hy7, f1, f3, f5, ?_, (hset_ne _ _ _ (by omega)).trans b0, hset_at _ _ _, hql, by rw [List.length_set]; exact hcl, hBF.relax hi hL hrk hql hl hsm (fun v => ?_), rfl⟩
          · simp only [packed, fset_apply, Nat.reduceEqDiff, ↓reduceIte, List.getD_cons_zero, List.getD_cons_succ, f6, hqw, ff_13]
          · rw [cF_set hll, hcl']
      · have hqe : q = g.rules.length := by omega
        subst hqe
        repeat (first | apply WK.seq | apply WK.block | apply WK.skipSeq | apply WK.skipBlock | apply WK.retSeq | apply WK.retBlock | apply WK.exitSeq | apply WK.exitHere | refine WK.exitOn rfl ?_ | ((first | (refine WK.rgn ?_ ?_; kernel_rfl) | refine AtCall.now ?_); simp (config := { maxSteps := 1000000 }) only [SS, forall_const, wx, tguard, acallee, top, tval, fput, tor, vsh, vbin, tload, tload2, tload3, tstore, tstore2, tstore3, Go.AM.splice, one, tidx, tidx2, tidx3, tfa, tfa2, tlen2, tbox, tbs, tbs2, afill, tap, tap2, tap3, tap4, tsrc, tsrc2, Int.reduceEq, Int.reduceNeg, Nat.reduceGT, Nat.reduceLT, Nat.reduceLeDiff, Nat.reduceEqDiff, ↓reduceIte, reduceCtorEq, Int.reduceToNat, Int.reduceLE, Int.reduceLT, Nat.reduceAdd, Nat.reduceMul, f1, f5, f6, b0, gc_2, hql, hiw, ff_13]) | (refine WK.condT ?_ ?_; focus (simp only [ev_tmp, ev_const, fset_apply, Nat.reduceEqDiff, ↓reduceIte, decide_true, decide_false, f1, f5, f6, b0, gc_2, hql, hiw, ff_13]; done)) | (refine WK.condF ?_ ?_; focus (simp only [ev_tmp, ev_const, fset_apply, Nat.reduceEqDiff, ↓reduceIte, decide_true, decide_false, f1, f5, f6, b0, gc_2, hql, hiw, ff_13]; done)))
        refine ih (g.vars.length - (i + 1)) (by omega) _ ⟨i + 1, cl, kp, hy7, f1, f3, ?_, b0, hy, hil, hcl, hBF.next hrk, rfl⟩
        simp only [packed, fset_apply, Nat.reduceEqDiff, ↓reduceIte, List.getD_cons_zero, List.getD_cons_succ, f5, hiw, ff_13]
    · have hie : i = g.vars.length := by omega
      rw [hie] at hBF
      repeat (first | apply WK.seq | apply WK.block | apply WK.skipSeq | apply WK.skipBlock | apply WK.retSeq | apply WK.retBlock | apply WK.exitSeq | apply WK.exitHere | refine WK.exitOn rfl ?_ | ((first | (refine WK.rgn ?_ ?_; kernel_rfl) | refine AtCall.now ?_); simp (config := { maxSteps := 1000000 }) only [SS, forall_const, wx, tguard, acallee, top, tval, fput, tor, vsh, vbin, tload, tload2, tload3, tstore, tstore2, tstore3, Go.AM.splice, one, tidx, tidx2, tidx3, tfa, tfa2, tlen2, tbox, tbs, tbs2, afill, tap, tap2, tap3, tap4, tsrc, tsrc2, Int.reduceEq, Int.reduceNeg, Nat.reduceGT, Nat.reduceLT, Nat.reduceLeDiff, Nat.reduceEqDiff, ↓reduceIte, reduceCtorEq, Int.reduceToNat, Int.reduceLE, Int.reduceLT, Nat.reduceAdd, Nat.reduceMul, f1, f3, f5, b0, gc_1, hil, ff_13]) | (refine WK.condT ?_ ?_; focus (simp only [ev_tmp, ev_const, fset_apply, Nat.reduceEqDiff, ↓reduceIte, decide_true, decide_false, f1, f3, f5, b0, gc_1, hil, ff_13]; done)) | (refine WK.condF ?_ ?_; focus (simp only [ev_tmp, ev_const, fset_apply, Nat.reduceEqDiff, ↓reduceIte, decide_true, decide_false, f1, f3, f5, b0, gc_1, hil, ff_13]; done)))
      (first | refine WK.retNil ⟨Or.inr rfl, _, rfl, ?_, ?_⟩ | refine WK.skipNil ⟨Or.inl rfl, _, rfl, ?_, ?_⟩)
      · exact kp.keep
      · simp only [packed, fset_apply, Nat.reduceEqDiff, ↓reduceIte, List.getD_cons_zero, List.getD_cons_succ, f3, ff_13]
        exact ⟨cl, y, by omega, rfl, hcl, hy, hBF.over hi hrk hall⟩
end Go.Proofs.YtihjaobjhmmboaaGreatDoor
