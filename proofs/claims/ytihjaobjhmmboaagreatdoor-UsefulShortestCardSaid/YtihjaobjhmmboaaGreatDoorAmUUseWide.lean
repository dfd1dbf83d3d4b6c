/- A part of a proof. Its conditions: none. -/
import Derived.Test.YtihjaobjhmmboaaGreatDoorAmULfCostW
import Derived.Test.YtihjaobjhmmboaaGreatDoorAmC
import Derived.Test.YtihjaobjhmmboaaGreatDoorAmD
set_option linter.all false
namespace Go.Proofs.YtihjaobjhmmboaaGreatDoor
open Go.AM
set_option maxRecDepth 100000

set_option maxHeartbeats 8000000 in
/-- Has a tree by the best rules more nodes than may be? -/
theorem wide_gives {v : Value} {g : Gram} {xb u0 n : Nat} {bl : List Int} {c : Nat → Nat} {ord : List Nat} {H : Heap} (hw : WF n H) (hg : RG H v g) (wg : WG g) (ok : RightOK g) (hxb : H xb = .cells (bl.map (Value.int .i64)) 3 true) (hbl : bl.length = g.vars.length)
    (hrk : Ranked g c (bF bl) ord) (hall : ∀ v, v < g.vars.length → v ∈ ord ∨ v ∉ ord ∧ c v = farN ∧ bF bl v = -1) (hu0 : u0 < g.vars.length) :
    Gives Tryz.prog 22 [v, .slice (some ⟨xb, 0, none⟩) g.vars.length g.vars.length, .int .i64 (u0 : Nat)] n H fun v _ _ => ∃ t, v = .bool t ∧ (u0 ∈ ord → t = decide (4096 < min (szOf g (bF bl) u0) wideM)) := by
  have hg0 := hg
  obtain ⟨pt, pv, pr, rfl, ht, hv, hr⟩ := hg
  refine Gives.of orders ok22 (Nat.le_of_ble_eq_true rfl) ?_
  have hk := Kp.new n H (.cells (gcells pt pv pr g) 25 true)
  have hb := hset_at H n (.cells (gcells pt pv pr g) 25 true)
  have hi := ok.inG
  have hv64 := ok.vars
  have hrl := ok.rules
  have hM : wideM = 1048576 := rfl
  have hvl : (g.vars.length : Int) ≤ bigN := by unfold bigN; omega
-- function 22
  repeat (first | apply WK.seq | apply WK.block | apply WK.skipSeq | apply WK.skipBlock | apply WK.retSeq | apply WK.retBlock | apply WK.exitSeq | apply WK.exitHere | refine WK.exitOn rfl ?_)
  (refine WK.rgn ?_ ?_; kernel_rfl; simp (config := { maxSteps := 1000000 }) only [SS, forall_const, wx, tguard, acallee, top, tval, fput, tor, vsh, vbin, tload, tload2, tload3, tstore, tstore2, tstore3, Go.AM.splice, one, tidx, tidx2, tidx3, tfa, tfa2, tlen2, tbox, tmake, Int.reduceEq, Int.reduceNeg, Nat.reduceGT, Nat.reduceLT, Nat.reduceLeDiff, Nat.reduceEqDiff, ↓reduceIte, reduceCtorEq, Int.reduceToNat, Int.reduceLE, Int.reduceLT, Nat.reduceAdd, Nat.reduceMul, box_cells, box_one, ff_22])
  replace hxb := (hk.keep xb (live_lt hw (live_of hxb))).trans hxb
  have hxn : xb ≠ n + 1 := by have := live_lt (hk.wf hw) (live_of hxb); omega
  generalize hset H n (.cells (gcells pt pv pr g) 25 true) = H1 at *
  repeat (first | apply WK.seq | apply WK.block | apply WK.skipSeq | apply WK.skipBlock | apply WK.retSeq | apply WK.retBlock | apply WK.exitSeq | apply WK.exitHere | refine WK.exitOn rfl ?_)
  (refine WK.rgn ?_ ?_; kernel_rfl; simp (config := { maxSteps := 1000000 }) only [SS, forall_const, wx, tguard, acallee, top, tval, fput, tor, vsh, vbin, tload, tload2, tload3, tstore, tstore2, tstore3, Go.AM.splice, one, tidx, tidx2, tidx3, tfa, tfa2, tlen2, tbox, tmake, Int.reduceEq, Int.reduceNeg, Nat.reduceGT, Nat.reduceLT, Nat.reduceLeDiff, Nat.reduceEqDiff, ↓reduceIte, reduceCtorEq, Int.reduceToNat, Int.reduceLE, Int.reduceLT, Nat.reduceAdd, Nat.reduceMul, hb, gc_1, hvl, ff_22])
  rw [rep_nat]
  have k1 := hk.trans (Kp.new (n + 1) H1 (.cells ((List.replicate g.vars.length 0).map natC) 3 true))
  have b0 := (hset_ne H1 (n + 1) (.cells ((List.replicate g.vars.length 0).map natC) 3 true) (x := n) (by omega)).trans hb
  have b1 := hset_at H1 (n + 1) (.cells ((List.replicate g.vars.length 0).map natC) 3 true)
  have bb := (hset_ne H1 (n + 1) (.cells ((List.replicate g.vars.length 0).map natC) 3 true) hxn).trans hxb
  generalize hset H1 (n + 1) (.cells ((List.replicate g.vars.length 0).map natC) 3 true) = H2 at *
  repeat (first | apply WK.seq | apply WK.block | apply WK.skipSeq | apply WK.skipBlock | apply WK.retSeq | apply WK.retBlock | apply WK.exitSeq | apply WK.exitHere | refine WK.exitOn rfl ?_ | ((first | (refine WK.rgn ?_ ?_; kernel_rfl) | refine AtCall.now ?_); simp (config := { maxSteps := 1000000 }) only [SS, forall_const, wx, tguard, acallee, top, tval, fput, tor, vsh, vbin, tload, tload2, tload3, tstore, tstore2, tstore3, Go.AM.splice, one, tidx, tidx2, tidx3, tfa, tfa2, tlen2, tbox, tmake, Int.reduceEq, Int.reduceNeg, Nat.reduceGT, Nat.reduceLT, Nat.reduceLeDiff, Nat.reduceEqDiff, ↓reduceIte, reduceCtorEq, Int.reduceToNat, Int.reduceLE, Int.reduceLT, Nat.reduceAdd, Nat.reduceMul, b0, gc_1, ff_22]) | (refine WK.condT ?_ ?_; focus (simp only [ev_tmp, ev_const, fset_apply, Nat.reduceEqDiff, ↓reduceIte, decide_true, decide_false, b0, gc_1, ff_22]; done)) | (refine WK.condF ?_ ?_; focus (simp only [ev_tmp, ev_const, fset_apply, Nat.reduceEqDiff, ↓reduceIte, decide_true, decide_false, b0, gc_1, ff_22]; done)))
  refine WK.loop (fun k s => ∃ (i : Nat) (sl : List Nat), Kp n H s.n s.H ∧ s.n = n + 2 ∧ s.f 1 = .slice (some ⟨xb, 0, none⟩) g.vars.length g.vars.length ∧ s.f 2 = .int .i64 (u0 : Nat) ∧ s.f 3 = .pointer (some ⟨n, 0, none⟩) ∧ s.f 7 = .slice (some ⟨n + 1, 0, none⟩) g.vars.length g.vars.length ∧ s.f 19 = .int .i64 (g.vars.length : Nat) ∧ s.f 20 = .int .i64 (i : Nat) ∧
      s.H n = .cells (gcells pt pv pr g) 25 true ∧ s.H xb = .cells (bl.map (Value.int .i64)) 3 true ∧ s.H (n + 1) = .cells (sl.map natC) 3 true ∧ sl.length = g.vars.length ∧ (∀ x ∈ sl, x ≤ wideM) ∧ i ≤ g.vars.length ∧ WD g (bF bl) ord (cF sl) i 0 ∧ k = g.vars.length - i) g.vars.length ?_ ?_
  · exact ⟨0, _, k1, rfl, rfl, rfl, rfl, rfl, rfl, rfl, b0, bb, b1, by simp, (fun x hx => by have := List.eq_of_mem_replicate hx; omega), Nat.zero_le _, .start _, rfl⟩
  clear k1 b0 b1 bb hxb hb
  rintro kk ⟨f, n', H3⟩ ⟨i, sl, kp, rfl, f1, f2, f3, f7, f19, f20, b0, bb, b1, hsl, hsm, hiv, hWD, rfl⟩ ih
  simp only at f1 f2 f3 f7 f19 f20 ih kp b0 bb b1
  by_cases hil : i < g.vars.length
  · have hiw : IntKind.i64.wrap ((i : Int) + 1) = ((i + 1 : Nat) : Int) := by rw [wrap_in (by omega) (by omega)]; rfl
    repeat (first | apply WK.seq | apply WK.block | apply WK.skipSeq | apply WK.skipBlock | apply WK.retSeq | apply WK.retBlock | apply WK.exitSeq | apply WK.exitHere | refine WK.exitOn rfl ?_ | ((first | (refine WK.rgn ?_ ?_; kernel_rfl) | refine AtCall.now ?_); simp (config := { maxSteps := 1000000 }) only [SS, forall_const, wx, tguard, acallee, top, tval, fput, tor, vsh, vbin, tload, tload2, tload3, tstore, tstore2, tstore3, Go.AM.splice, one, tidx, tidx2, tidx3, tfa, tfa2, tlen2, tbox, tmake, Int.reduceEq, Int.reduceNeg, Nat.reduceGT, Nat.reduceLT, Nat.reduceLeDiff, Nat.reduceEqDiff, ↓reduceIte, reduceCtorEq, Int.reduceToNat, Int.reduceLE, Int.reduceLT, Nat.reduceAdd, Nat.reduceMul, f1, f19, f20, hil, ff_22]) | (refine WK.condT ?_ ?_; focus (simp only [ev_tmp, ev_const, fset_apply, Nat.reduceEqDiff, ↓reduceIte, decide_true, decide_false, f1, f19, f20, hil, ff_22]; done)) | (refine WK.condF ?_ ?_; focus (simp only [ev_tmp, ev_const, fset_apply, Nat.reduceEqDiff, ↓reduceIte, decide_true, decide_false, f1, f19, f20, hil, ff_22]; done)))
    refine WK.loop (fun k s => ∃ (u : Nat) (sl : List Nat), Kp n H s.n s.H ∧ s.n = n + 2 ∧ s.f 1 = .slice (some ⟨xb, 0, none⟩) g.vars.length g.vars.length ∧ s.f 2 = .int .i64 (u0 : Nat) ∧ s.f 3 = .pointer (some ⟨n, 0, none⟩) ∧ s.f 7 = .slice (some ⟨n + 1, 0, none⟩) g.vars.length g.vars.length ∧ s.f 19 = .int .i64 (g.vars.length : Nat) ∧ s.f 20 = .int .i64 (i : Nat) ∧
        s.f 22 = .slice (some ⟨xb, 0, none⟩) g.vars.length g.vars.length ∧ s.f 23 = .int .i64 (g.vars.length : Nat) ∧ s.f 24 = .int .i64 (u : Nat) ∧
        s.H n = .cells (gcells pt pv pr g) 25 true ∧ s.H xb = .cells (bl.map (Value.int .i64)) 3 true ∧ s.H (n + 1) = .cells (sl.map natC) 3 true ∧ sl.length = g.vars.length ∧ (∀ x ∈ sl, x ≤ wideM) ∧ u ≤ g.vars.length ∧ WD g (bF bl) ord (cF sl) i u ∧ k = g.vars.length - u) g.vars.length ?_ ?_
    · exact ⟨0, sl, kp, rfl, f1, f2, f3, f7, f19, f20, rfl, rfl, rfl, b0, bb, b1, hsl, hsm, Nat.zero_le _, hWD, rfl⟩
    clear f1 f2 f3 f7 f19 f20 b0 bb b1 hsl hsm hWD kp
    rintro kk ⟨f, n', H4⟩ ⟨u, sl, kp, rfl, f1, f2, f3, f7, f19, f20, f22, f23, f24, b0, bb, b1, hsl, hsm, huv, hWD, rfl⟩ ih2
    simp only at f1 f2 f3 f7 f19 f20 f22 f23 f24 ih2 kp b0 bb b1
    by_cases hul : u < g.vars.length
    · have huw : IntKind.i64.wrap ((u : Int) + 1) = ((u + 1 : Nat) : Int) := by rw [wrap_in (by omega) (by omega)]; rfl
      have hubl : u < bl.length := by omega
      have husl : u < sl.length := by omega
      have hgb : (bl.map (Value.int .i64))[u]? = some (.int .i64 (bF bl u)) := by rw [List.getElem?_map, List.getElem?_eq_getElem hubl]; simp [bF, hubl]
      have hus1 : u + 1 ≤ sl.length := husl
      -- what is laid down at the end
      have last : ∀ (m : Nat) (f' : Fr), m ≤ wideM → (∀ q (hq : q < g.rules.length), bF bl u = (q : Int) → m = wfold (cF sl) 1 g.rules[q].right) → f' 1 = f 1 → f' 2 = f 2 → f' 3 = f 3 → f' 7 = f 7 → f' 19 = f 19 → f' 20 = f 20 → f' 22 = f 22 → f' 23 = f 23 → f' 24 = .int .i64 ((u + 1 : Nat) : Int) →
          ∃ (u' : Nat) (sl' : List Nat), Kp n H (n + 2) (hset H4 (n + 1) (.cells ((sl.set u m).map natC) 3 true)) ∧ n + 2 = n + 2 ∧ f' 1 = .slice (some ⟨xb, 0, none⟩) g.vars.length g.vars.length ∧ f' 2 = .int .i64 (u0 : Nat) ∧ f' 3 = .pointer (some ⟨n, 0, none⟩) ∧ f' 7 = .slice (some ⟨n + 1, 0, none⟩) g.vars.length g.vars.length ∧ f' 19 = .int .i64 (g.vars.length : Nat) ∧ f' 20 = .int .i64 (i : Nat) ∧
            f' 22 = .slice (some ⟨xb, 0, none⟩) g.vars.length g.vars.length ∧ f' 23 = .int .i64 (g.vars.length : Nat) ∧ f' 24 = .int .i64 (u' : Nat) ∧
            hset H4 (n + 1) (.cells ((sl.set u m).map natC) 3 true) n = .cells (gcells pt pv pr g) 25 true ∧ hset H4 (n + 1) (.cells ((sl.set u m).map natC) 3 true) xb = .cells (bl.map (Value.int .i64)) 3 true ∧ hset H4 (n + 1) (.cells ((sl.set u m).map natC) 3 true) (n + 1) = .cells (sl'.map natC) 3 true ∧ sl'.length = g.vars.length ∧ (∀ x ∈ sl', x ≤ wideM) ∧ u' ≤ g.vars.length ∧ WD g (bF bl) ord (cF sl') i u' ∧ g.vars.length - (u + 1) = g.vars.length - u' := by
        intro m f' hm hq e1 e2 e3 e7 e19 e20 e22 e23 e24
        refine ⟨u + 1, sl.set u m, kp.set _ (by omega) (by omega), rfl, e1.trans f1, e2.trans f2, e3.trans f3, e7.trans f7, e19.trans f19, e20.trans f20, e22.trans f22, e23.trans f23, e24, (hset_ne _ _ _ (by omega)).trans b0, (hset_ne _ _ _ hxn).trans bb, hset_at _ _ _, by rw [List.length_set]; exact hsl, fun x hx => ?_, hul, hWD.set hrk hq (fun v => cF_set husl v), rfl⟩
        rcases List.mem_or_eq_of_mem_set hx with hx | rfl
        · exact hsm x hx
        · exact hm
      have hset' : ∀ m : Nat, (sl.map natC).set u (.int .i64 (m : Int)) = (sl.set u m).map natC := fun m => by rw [List.map_set]; rfl
      by_cases hb0 : 0 ≤ bF bl u
      · obtain ⟨q, hq⟩ : ∃ q : Nat, bF bl u = q := ⟨(bF bl u).toNat, by omega⟩
        have hql : q < g.rules.length := by
          rcases hall u hul with h1 | ⟨_, _, h1⟩
          · obtain ⟨q', hq', e, _⟩ := hrk.mem_at h1
            omega
          · omega
        rw [hq] at hgb hb0
        obtain ⟨z, kz, cs, ty, own, p, e0, hzH, d0, d1, d2, hpH⟩ := hr.at hql
        subst e0
        have hz := (kp.keep z (live_lt hw (live_of hzH))).trans hzH
        have hm := List.getElem_mem hql
        have hlen24 := (ok.rule q hql).len
        have hp := hpH.mono hw kp
        repeat (first | apply WK.seq | apply WK.block | apply WK.skipSeq | apply WK.skipBlock | apply WK.retSeq | apply WK.retBlock | apply WK.exitSeq | apply WK.exitHere | refine WK.exitOn rfl ?_ | ((first | (refine WK.rgn ?_ ?_; kernel_rfl) | refine AtCall.now ?_); simp (config := { maxSteps := 1000000 }) only [SS, forall_const, wx, tguard, acallee, top, tval, fput, tor, vsh, vbin, tload, tload2, tload3, tstore, tstore2, tstore3, Go.AM.splice, one, tidx, tidx2, tidx3, tfa, tfa2, tlen2, tbox, tmake, Int.reduceEq, Int.reduceNeg, Nat.reduceGT, Nat.reduceLT, Nat.reduceLeDiff, Nat.reduceEqDiff, ↓reduceIte, reduceCtorEq, Int.reduceToNat, Int.reduceLE, Int.reduceLT, Nat.reduceAdd, Nat.reduceMul, f3, f22, f23, f24, hul, bb, hgb, b0, gc_2, hql, hz, d1, ff_22]) | (refine WK.condT ?_ ?_; focus (simp only [ev_tmp, ev_const, fset_apply, Nat.reduceEqDiff, ↓reduceIte, decide_true, decide_false, f3, f22, f23, f24, hul, bb, hgb, b0, gc_2, hql, hz, d1, ff_22]; done)) | (refine WK.condF ?_ ?_; focus (simp only [ev_tmp, ev_const, fset_apply, Nat.reduceEqDiff, ↓reduceIte, decide_true, decide_false, f3, f22, f23, f24, hul, bb, hgb, b0, gc_2, hql, hz, d1, ff_22]; done)))
        refine WK.loop (fun k s => ∃ (j m : Nat), s.n = n + 2 ∧ s.H = H4 ∧ s.f 1 = f 1 ∧ s.f 2 = f 2 ∧ s.f 3 = f 3 ∧ s.f 7 = f 7 ∧ s.f 19 = f 19 ∧ s.f 20 = f 20 ∧ s.f 22 = f 22 ∧ s.f 23 = f 23 ∧ s.f 24 = f 24 ∧ s.f 8 = .int .i64 (u : Nat) ∧ s.f 10 = .int .i64 (m : Nat) ∧ s.f 36 = .slice p g.rules[q].right.length g.rules[q].right.length ∧ s.f 37 = .int .i64 (g.rules[q].right.length : Nat) ∧ s.f 38 = .int .i64 (j : Nat) ∧
            j ≤ g.rules[q].right.length ∧ m = wfold (cF sl) 1 (g.rules[q].right.take j) ∧ k = g.rules[q].right.length - j) g.rules[q].right.length ?_ ?_
        · exact ⟨0, 1, rfl, rfl, rfl, rfl, rfl, rfl, rfl, rfl, rfl, rfl, rfl, rfl, rfl, rfl, rfl, rfl, Nat.zero_le _, rfl, rfl⟩
        rintro kk ⟨f', n', H5⟩ ⟨j, m, rfl, rfl, e1, e2, e3, e7, e19, e20, e22, e23, e24, f8, f10, f36, f37, f38, hj, hms, rfl⟩ ih3
        simp only at e1 e2 e3 e7 e19 e20 e22 e23 e24 f8 f10 f36 f37 f38 ih3 b0 bb b1 hz hp kp
        have hmM : m ≤ wideM := by rw [hms]; exact wfold_le _ _ _ (by decide)
        by_cases hjl : j < g.rules[q].right.length
        · have hjw : IntKind.i64.wrap ((j : Int) + 1) = ((j + 1 : Nat) : Int) := by rw [wrap_in (by omega) (by omega)]; rfl
          obtain ⟨x3, k3', ds, tz3, oz3, e3', hx3, ex⟩ := hp.at hjl
          subst e3'
          have hlt := hi.right _ hm _ (List.getElem_mem hjl)
          have hsn := wfold_snoc (cF sl) (g.rules[q].right.take j) 1 g.rules[q].right[j]
          rw [← List.take_succ_eq_append_getElem hjl, ← hms] at hsn
          by_cases h0 : 0 ≤ g.rules[q].right[j]
          · obtain ⟨s, hs'⟩ : ∃ s : Nat, g.rules[q].right[j] = s := ⟨g.rules[q].right[j].toNat, by omega⟩
            have hsv : s < g.vars.length := by omega
            have hssl : s < sl.length := by omega
            have h00 : (0 ≤ (s : Int)) = True := by simp
            have hgs : (sl.map natC)[s]? = some (.int .i64 (sl[s] : Nat)) := by rw [List.getElem?_map, List.getElem?_eq_getElem hssl]; rfl
            have hcs : cF sl s = sl[s] := by simp [cF, hssl]
            have hsM := hsm _ (List.getElem_mem hssl)
            rw [hs', if_neg (by omega), Int.toNat_natCast] at hsn
            have hadd : IntKind.i64.wrap ((m : Int) + (sl[s] : Nat)) = ((m + sl[s] : Nat) : Int) := by rw [wrap_in (by omega) (by omega)]; omega
            repeat (first | apply WK.seq | apply WK.block | apply WK.skipSeq | apply WK.skipBlock | apply WK.retSeq | apply WK.retBlock | apply WK.exitSeq | apply WK.exitHere | refine WK.exitOn rfl ?_ | ((first | (refine WK.rgn ?_ ?_; kernel_rfl) | refine AtCall.now ?_); simp (config := { maxSteps := 1000000 }) only [SS, forall_const, wx, tguard, acallee, top, tval, fput, tor, vsh, vbin, tload, tload2, tload3, tstore, tstore2, tstore3, Go.AM.splice, one, tidx, tidx2, tidx3, tfa, tfa2, tlen2, tbox, tmake, Int.reduceEq, Int.reduceNeg, Nat.reduceGT, Nat.reduceLT, Nat.reduceLeDiff, Nat.reduceEqDiff, ↓reduceIte, reduceCtorEq, Int.reduceToNat, Int.reduceLE, Int.reduceLT, Nat.reduceAdd, Nat.reduceMul, e7, f7, f10, f36, f37, f38, hjl, hx3, ex, hs', h00, hsv, b1, hgs, hadd, hjw, aop_min, tmm, Bool.false_eq_true, ff_22]) | (refine WK.condT ?_ ?_; focus (simp only [ev_tmp, ev_const, fset_apply, Nat.reduceEqDiff, ↓reduceIte, decide_true, decide_false, e7, f7, f10, f36, f37, f38, hjl, hx3, ex, hs', h00, hsv, b1, hgs, hadd, hjw, aop_min, tmm, Bool.false_eq_true, ff_22]; done)) | (refine WK.condF ?_ ?_; focus (simp only [ev_tmp, ev_const, fset_apply, Nat.reduceEqDiff, ↓reduceIte, decide_true, decide_false, e7, f7, f10, f36, f37, f38, hjl, hx3, ex, hs', h00, hsv, b1, hgs, hadd, hjw, aop_min, tmm, Bool.false_eq_true, ff_22]; done)))
            refine ih3 (g.rules[q].right.length - (j + 1)) (by omega) _ ⟨j + 1, min (m + cF sl s) wideM, rfl, rfl, e1, e2, e3, e7, e19, e20, e22, e23, e24, f8, ?_, f36, f37, ?_, hjl, hsn.symm, rfl⟩
            · simp only [packed, fset_apply, Nat.reduceEqDiff, ↓reduceIte, List.getD_cons_zero, List.getD_cons_succ, ff_22]
              congr 1
              rw [hM, hcs]
              split <;> omega
            · simp only [packed, fset_apply, Nat.reduceEqDiff, ↓reduceIte, List.getD_cons_zero, List.getD_cons_succ, f38, hjw, ff_22]
          · have hneg : g.rules[q].right[j] < 0 := by omega
            rw [if_pos hneg] at hsn
            repeat (first | apply WK.seq | apply WK.block | apply WK.skipSeq | apply WK.skipBlock | apply WK.retSeq | apply WK.retBlock | apply WK.exitSeq | apply WK.exitHere | refine WK.exitOn rfl ?_ | ((first | (refine WK.rgn ?_ ?_; kernel_rfl) | refine AtCall.now ?_); simp (config := { maxSteps := 1000000 }) only [SS, forall_const, wx, tguard, acallee, top, tval, fput, tor, vsh, vbin, tload, tload2, tload3, tstore, tstore2, tstore3, Go.AM.splice, one, tidx, tidx2, tidx3, tfa, tfa2, tlen2, tbox, tmake, Int.reduceEq, Int.reduceNeg, Nat.reduceGT, Nat.reduceLT, Nat.reduceLeDiff, Nat.reduceEqDiff, ↓reduceIte, reduceCtorEq, Int.reduceToNat, Int.reduceLE, Int.reduceLT, Nat.reduceAdd, Nat.reduceMul, f10, f36, f37, f38, hjl, hx3, ex, h0, hjw, ff_22]) | (refine WK.condT ?_ ?_; focus (simp only [ev_tmp, ev_const, fset_apply, Nat.reduceEqDiff, ↓reduceIte, decide_true, decide_false, f10, f36, f37, f38, hjl, hx3, ex, h0, hjw, ff_22]; done)) | (refine WK.condF ?_ ?_; focus (simp only [ev_tmp, ev_const, fset_apply, Nat.reduceEqDiff, ↓reduceIte, decide_true, decide_false, f10, f36, f37, f38, hjl, hx3, ex, h0, hjw, ff_22]; done)))
            refine ih3 (g.rules[q].right.length - (j + 1)) (by omega) _ ⟨j + 1, m, rfl, rfl, e1, e2, e3, e7, e19, e20, e22, e23, e24, f8, f10, f36, f37, ?_, hjl, hsn.symm, rfl⟩
            simp only [packed, fset_apply, Nat.reduceEqDiff, ↓reduceIte, List.getD_cons_zero, List.getD_cons_succ, f38, hjw, ff_22]
        · rw [List.take_of_length_le (by omega)] at hms
          repeat (first | apply WK.seq | apply WK.block | apply WK.skipSeq | apply WK.skipBlock | apply WK.retSeq | apply WK.retBlock | apply WK.exitSeq | apply WK.exitHere | refine WK.exitOn rfl ?_ | ((first | (refine WK.rgn ?_ ?_; kernel_rfl) | refine AtCall.now ?_); simp (config := { maxSteps := 1000000 }) only [SS, forall_const, wx, tguard, acallee, top, tval, fput, tor, vsh, vbin, tload, tload2, tload3, tstore, tstore2, tstore3, Go.AM.splice, one, tidx, tidx2, tidx3, tfa, tfa2, tlen2, tbox, tmake, Int.reduceEq, Int.reduceNeg, Nat.reduceGT, Nat.reduceLT, Nat.reduceLeDiff, Nat.reduceEqDiff, ↓reduceIte, reduceCtorEq, Int.reduceToNat, Int.reduceLE, Int.reduceLT, Nat.reduceAdd, Nat.reduceMul, e7, f7, e24, f24, f8, f10, f37, f38, hjl, b1, hul, hus1, huw, hset', List.length_map, ff_22]) | (refine WK.condT ?_ ?_; focus (simp only [ev_tmp, ev_const, fset_apply, Nat.reduceEqDiff, ↓reduceIte, decide_true, decide_false, e7, f7, e24, f24, f8, f10, f37, f38, hjl, b1, hul, hus1, huw, hset', List.length_map, ff_22]; done)) | (refine WK.condF ?_ ?_; focus (simp only [ev_tmp, ev_const, fset_apply, Nat.reduceEqDiff, ↓reduceIte, decide_true, decide_false, e7, f7, e24, f24, f8, f10, f37, f38, hjl, b1, hul, hus1, huw, hset', List.length_map, ff_22]; done)))
          refine ih2 (g.vars.length - (u + 1)) (by omega) _ (last m _ hmM (fun q' hq' e => ?_) e1 e2 e3 e7 e19 e20 e22 e23 ?_)
          · have : q' = q := by omega
            subst this
            exact hms
          · simp only [packed, fset_apply, Nat.reduceEqDiff, ↓reduceIte, List.getD_cons_zero, List.getD_cons_succ, e24, f24, huw, ff_22]
      · have hgb' := hgb
        have hset1 : (sl.map natC).set u (.int .i64 1) = (sl.set u 1).map natC := hset' 1
        repeat (first | apply WK.seq | apply WK.block | apply WK.skipSeq | apply WK.skipBlock | apply WK.retSeq | apply WK.retBlock | apply WK.exitSeq | apply WK.exitHere | refine WK.exitOn rfl ?_ | ((first | (refine WK.rgn ?_ ?_; kernel_rfl) | refine AtCall.now ?_); simp (config := { maxSteps := 1000000 }) only [SS, forall_const, wx, tguard, acallee, top, tval, fput, tor, vsh, vbin, tload, tload2, tload3, tstore, tstore2, tstore3, Go.AM.splice, one, tidx, tidx2, tidx3, tfa, tfa2, tlen2, tbox, tmake, Int.reduceEq, Int.reduceNeg, Nat.reduceGT, Nat.reduceLT, Nat.reduceLeDiff, Nat.reduceEqDiff, ↓reduceIte, reduceCtorEq, Int.reduceToNat, Int.reduceLE, Int.reduceLT, Nat.reduceAdd, Nat.reduceMul, f7, f22, f23, f24, hul, bb, hgb, hb0, b1, hus1, huw, hset1, List.length_map, ff_22]) | (refine WK.condT ?_ ?_; focus (simp only [ev_tmp, ev_const, fset_apply, Nat.reduceEqDiff, ↓reduceIte, decide_true, decide_false, f7, f22, f23, f24, hul, bb, hgb, hb0, b1, hus1, huw, hset1, List.length_map, ff_22]; done)) | (refine WK.condF ?_ ?_; focus (simp only [ev_tmp, ev_const, fset_apply, Nat.reduceEqDiff, ↓reduceIte, decide_true, decide_false, f7, f22, f23, f24, hul, bb, hgb, hb0, b1, hus1, huw, hset1, List.length_map, ff_22]; done)))
        refine ih2 (g.vars.length - (u + 1)) (by omega) _ (last 1 _ (by decide) (fun q' hq' e => by omega) rfl rfl rfl rfl rfl rfl rfl rfl ?_)
        simp only [packed, fset_apply, Nat.reduceEqDiff, ↓reduceIte, List.getD_cons_zero, List.getD_cons_succ, f24, huw, ff_22]
    · have hue : u = g.vars.length := by omega
      subst hue
      repeat (first | apply WK.seq | apply WK.block | apply WK.skipSeq | apply WK.skipBlock | apply WK.retSeq | apply WK.retBlock | apply WK.exitSeq | apply WK.exitHere | refine WK.exitOn rfl ?_ | ((first | (refine WK.rgn ?_ ?_; kernel_rfl) | refine AtCall.now ?_); simp (config := { maxSteps := 1000000 }) only [SS, forall_const, wx, tguard, acallee, top, tval, fput, tor, vsh, vbin, tload, tload2, tload3, tstore, tstore2, tstore3, Go.AM.splice, one, tidx, tidx2, tidx3, tfa, tfa2, tlen2, tbox, tmake, Int.reduceEq, Int.reduceNeg, Nat.reduceGT, Nat.reduceLT, Nat.reduceLeDiff, Nat.reduceEqDiff, ↓reduceIte, reduceCtorEq, Int.reduceToNat, Int.reduceLE, Int.reduceLT, Nat.reduceAdd, Nat.reduceMul, f20, f23, f24, hul, hiw, ff_22]) | (refine WK.condT ?_ ?_; focus (simp only [ev_tmp, ev_const, fset_apply, Nat.reduceEqDiff, ↓reduceIte, decide_true, decide_false, f20, f23, f24, hul, hiw, ff_22]; done)) | (refine WK.condF ?_ ?_; focus (simp only [ev_tmp, ev_const, fset_apply, Nat.reduceEqDiff, ↓reduceIte, decide_true, decide_false, f20, f23, f24, hul, hiw, ff_22]; done)))
      refine ih (g.vars.length - (i + 1)) (by omega) _ ⟨i + 1, sl, kp, rfl, f1, f2, f3, f7, f19, ?_, b0, bb, b1, hsl, hsm, hil, hWD.next (fun v hv => hrk.lt hi v hv), rfl⟩
      simp only [packed, fset_apply, Nat.reduceEqDiff, ↓reduceIte, List.getD_cons_zero, List.getD_cons_succ, f20, hiw, ff_22]
  · have hie : i = g.vars.length := by omega
    rw [hie] at hWD
    have hul : u0 < sl.length := by omega
    have hgu : (sl.map natC)[u0]? = some (.int .i64 (sl[u0] : Nat)) := by rw [List.getElem?_map, List.getElem?_eq_getElem hul]; rfl
    repeat (first | apply WK.seq | apply WK.block | apply WK.skipSeq | apply WK.skipBlock | apply WK.retSeq | apply WK.retBlock | apply WK.exitSeq | apply WK.exitHere | refine WK.exitOn rfl ?_ | ((first | (refine WK.rgn ?_ ?_; kernel_rfl) | refine AtCall.now ?_); simp (config := { maxSteps := 1000000 }) only [SS, forall_const, wx, tguard, acallee, top, tval, fput, tor, vsh, vbin, tload, tload2, tload3, tstore, tstore2, tstore3, Go.AM.splice, one, tidx, tidx2, tidx3, tfa, tfa2, tlen2, tbox, tmake, Int.reduceEq, Int.reduceNeg, Nat.reduceGT, Nat.reduceLT, Nat.reduceLeDiff, Nat.reduceEqDiff, ↓reduceIte, reduceCtorEq, Int.reduceToNat, Int.reduceLE, Int.reduceLT, Nat.reduceAdd, Nat.reduceMul, f2, f7, f19, f20, hil, b1, hu0, hgu, ff_22]) | (refine WK.condT ?_ ?_; focus (simp only [ev_tmp, ev_const, fset_apply, Nat.reduceEqDiff, ↓reduceIte, decide_true, decide_false, f2, f7, f19, f20, hil, b1, hu0, hgu, ff_22]; done)) | (refine WK.condF ?_ ?_; focus (simp only [ev_tmp, ev_const, fset_apply, Nat.reduceEqDiff, ↓reduceIte, decide_true, decide_false, f2, f7, f19, f20, hil, b1, hu0, hgu, ff_22]; done)))
    (first | refine WK.retNil ⟨Or.inr rfl, _, rfl, ?_, ?_⟩ | refine WK.skipNil ⟨Or.inl rfl, _, rfl, ?_, ?_⟩)
    · exact kp.keep
    · simp only [packed, fset_apply, Nat.reduceEqDiff, ↓reduceIte, List.getD_cons_zero, List.getD_cons_succ, ff_22]
      refine ⟨_, rfl, fun hin => ?_⟩
      have := hWD.over hi hrk hin
      rw [← this]
      simp [cF, hul]
      omega
end Go.Proofs.YtihjaobjhmmboaaGreatDoor
