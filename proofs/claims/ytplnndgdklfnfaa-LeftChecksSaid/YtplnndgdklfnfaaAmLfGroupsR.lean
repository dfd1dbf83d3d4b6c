/- A part of a proof. Its conditions: none. -/
import Derived.Test.YtplnndgdklfnfaaAmLfReachR
import Derived.Test.YtplnndgdklfnfaaAmLfGroups
import Derived.Test.YtplnndgdklfnfaaAmB
set_option linter.all false
namespace Go.Proofs.Ytplnndgdklfnfaa
open Go.AM

set_option maxHeartbeats 8000000 in
theorem groupsR_gives {v : Value} {g : Gram} {n : Nat} {H : Heap} (hw : WF n H) (hg : RG H v g) (wg : WG g) (ok : RightOK g) :
    Gives Try.prog 14 [v] n H fun v _ H' => ∃ (R : Nat → Nat → Bool) (x : Nat) (ys : Nat → Nat), (∀ v u : Nat, R v u = true ↔ Rch g v u) ∧ n ≤ x ∧ v = .slice (some ⟨x, 0, none⟩) (groupsS R g.vars.length g.vars.length).length (groupsS R g.vars.length g.vars.length).length ∧ LL n H' x 35 3 ic (groupsS R g.vars.length g.vars.length) ys := by
  have hg0 := hg
  obtain ⟨pt, pv, pr, rfl, ht, hv, hr⟩ := hg
  refine Gives.of orders ok14 (Nat.le_of_ble_eq_true rfl) ?_
  have hk := Kp.new n H (.cells (gcells pt pv pr g) 25 true)
  have hb := hset_at H n (.cells (gcells pt pv pr g) 25 true)
  have hi := ok.inG
  have hv64 := ok.vars
  have hv1 := ok.vars1
-- function 14
  repeat (first | apply WK.seq | apply WK.block | apply WK.skipSeq | apply WK.skipBlock | apply WK.retSeq | apply WK.retBlock | apply WK.exitSeq | apply WK.exitHere | refine WK.exitOn rfl ?_)
  (refine WK.rgn ?_ ?_; kernel_rfl; simp (config := { maxSteps := 1000000 }) only [SS, forall_const, wx, tguard, acallee, top, tval, tor, tload, tload2, tload3, tstore, tstore2, tstore3, tidx, tidx2, tfa, tfa2, tlen2, tpick, textr, tbox, talloc, tmake, tbuild, tbs, tbs2, tfld, tfld2, tsl, tsl2, tsl3, tix, tix1, tix2, tap, tap2, tap3, tap4, tsrc, tsrc2, Int.reduceEq, Int.reduceNeg, Go.AM.bound, afill, Nat.reduceGT, Nat.reduceLT, still, still1, flat1, one, Go.AM.splice, Nat.reduceLeDiff, vsh, vbin, vun, vconv, fput, Nat.reduceEqDiff, ↓reduceIte, reduceCtorEq, Int.reduceToNat, Int.reduceLE, Int.reduceLT, Nat.reduceAdd, Nat.reduceMul, box_cells, box_one, ff_14])
  generalize hset H n (.cells (gcells pt pv pr g) 25 true) = H1 at *
  repeat (first | apply WK.seq | apply WK.block | apply WK.skipSeq | apply WK.skipBlock | apply WK.retSeq | apply WK.retBlock | apply WK.exitSeq | apply WK.exitHere | refine WK.exitOn rfl ?_)
  (refine WK.rgn ?_ ?_; kernel_rfl; simp (config := { maxSteps := 1000000 }) only [SS, forall_const, wx, tguard, acallee, top, tval, tor, tload, tload2, tload3, tstore, tstore2, tstore3, tidx, tidx2, tfa, tfa2, tlen2, tpick, textr, tbox, talloc, tmake, tbuild, tbs, tbs2, tfld, tfld2, tsl, tsl2, tsl3, tix, tix1, tix2, tap, tap2, tap3, tap4, tsrc, tsrc2, Int.reduceEq, Int.reduceNeg, Go.AM.bound, afill, Nat.reduceGT, Nat.reduceLT, still, still1, flat1, one, Go.AM.splice, Nat.reduceLeDiff, vsh, vbin, vun, vconv, fput, Nat.reduceEqDiff, ↓reduceIte, reduceCtorEq, Int.reduceToNat, Int.reduceLE, Int.reduceLT, Nat.reduceAdd, Nat.reduceMul, hb, gc_len, gc_all, ff_14])
  refine AtCall.by (reachR_gives (hk.wf hw) (hg0.mono hw hk) wg ok) ?_
  rintro v nb Hb kb ⟨rows, yr, xr, hx0, rfl, L, hrl, hlen, hR⟩
  simp (config := { maxSteps := 1000000 }) only [SS, forall_const, wx, tguard, acallee, top, tval, tor, tload, tload2, tload3, tstore, tstore2, tstore3, tidx, tidx2, tfa, tfa2, tlen2, tpick, textr, tbox, talloc, tmake, tbuild, tbs, tbs2, tfld, tfld2, tsl, tsl2, tsl3, tix, tix1, tix2, tap, tap2, tap3, tap4, tsrc, tsrc2, Int.reduceEq, Int.reduceNeg, Go.AM.bound, afill, Nat.reduceGT, Nat.reduceLT, still, still1, flat1, one, Go.AM.splice, Nat.reduceLeDiff, vsh, vbin, vun, vconv, fput, Nat.reduceEqDiff, ↓reduceIte, reduceCtorEq, Int.reduceToNat, Int.reduceLE, Int.reduceLT, Nat.reduceAdd, Nat.reduceMul, ff_14]
  have kb2 := hk.trans kb
  have wb := kb2.wf hw
  have hnb := kb.le
  obtain ⟨R, hRd⟩ : ∃ R, rowsB rows = R := ⟨_, rfl⟩
  rw [hRd] at hR
  have hxr := L.hx
  have hxl := L.ltx wb
  have row : ∀ v, v < g.vars.length → ∃ r, (llcells yr rows)[v]? = some (.slice (some ⟨yr v, 0, none⟩) g.vars.length g.vars.length) ∧ (∀ u, u < g.vars.length → (List.map Value.bool r)[u]? = some (.bool (R v u))) ∧ Hb (yr v) = .cells (List.map Value.bool r) 4 true := by
    intro v hv
    have hil : v < rows.length := by omega
    have hl := hlen _ (List.getElem_mem hil)
    have hrn : rows[v] ≠ [] := by intro e; rw [e] at hl; simp at hl; omega
    have hrow0 := L.at hil
    rw [sl_pos (by rw [hl]; omega), hl] at hrow0
    have hyi := L.hy v hil hrn
    rw [flat_bc] at hyi
    refine ⟨rows[v], hrow0, fun u hu => ?_, hyi⟩
    have hlt : u < rows[v].length := by rw [hl]; exact hu
    rw [List.getElem?_map, List.getElem?_eq_getElem hlt, ← hRd, rowsB_at hil hlt]
    rfl
  repeat (first | apply WK.seq | apply WK.block | apply WK.skipSeq | apply WK.skipBlock | apply WK.retSeq | apply WK.retBlock | apply WK.exitSeq | apply WK.exitHere | refine WK.exitOn rfl ?_)
  (refine WK.rgn ?_ ?_; kernel_rfl; simp (config := { maxSteps := 1000000 }) only [SS, forall_const, wx, tguard, acallee, top, tval, tor, tload, tload2, tload3, tstore, tstore2, tstore3, tidx, tidx2, tfa, tfa2, tlen2, tpick, textr, tbox, talloc, tmake, tbuild, tbs, tbs2, tfld, tfld2, tsl, tsl2, tsl3, tix, tix1, tix2, tap, tap2, tap3, tap4, tsrc, tsrc2, Int.reduceEq, Int.reduceNeg, Go.AM.bound, afill, Nat.reduceGT, Nat.reduceLT, still, still1, flat1, one, Go.AM.splice, Nat.reduceLeDiff, vsh, vbin, vun, vconv, fput, Nat.reduceEqDiff, ↓reduceIte, reduceCtorEq, Int.reduceToNat, Int.reduceLE, Int.reduceLT, Nat.reduceAdd, Nat.reduceMul, ebs_33_0, ff_14])
  have k0 := Kp.new nb Hb (.cells [] 35 true)
  have c0 := hset_at Hb nb (.cells [] 35 true)
  generalize hset Hb nb (.cells [] 35 true) = Hc at *
  repeat (first | apply WK.seq | apply WK.block | apply WK.skipSeq | apply WK.skipBlock | apply WK.retSeq | apply WK.retBlock | apply WK.exitSeq | apply WK.exitHere | refine WK.exitOn rfl ?_ | ((first | (refine WK.rgn ?_ ?_; kernel_rfl) | refine AtCall.now ?_); simp (config := { maxSteps := 1000000 }) only [SS, forall_const, wx, tguard, acallee, top, tval, tor, tload, tload2, tload3, tstore, tstore2, tstore3, tidx, tidx2, tfa, tfa2, tlen2, tpick, textr, tbox, talloc, tmake, tbuild, tbs, tbs2, tfld, tfld2, tsl, tsl2, tsl3, tix, tix1, tix2, tap, tap2, tap3, tap4, tsrc, tsrc2, Int.reduceEq, Int.reduceNeg, Go.AM.bound, afill, Nat.reduceGT, Nat.reduceLT, still, still1, flat1, one, Go.AM.splice, Nat.reduceLeDiff, vsh, vbin, vun, vconv, fput, Nat.reduceEqDiff, ↓reduceIte, reduceCtorEq, Int.reduceToNat, Int.reduceLE, Int.reduceLT, Nat.reduceAdd, Nat.reduceMul, ff_14]) | (refine WK.condT ?_ ?_; focus (simp only [ev_tmp, ev_const, fset_apply, Nat.reduceEqDiff, ↓reduceIte, decide_true, decide_false, ff_14]; done)) | (refine WK.condF ?_ ?_; focus (simp only [ev_tmp, ev_const, fset_apply, Nat.reduceEqDiff, ↓reduceIte, decide_true, decide_false, ff_14]; done)))
  refine WK.loop (fun k s => ∃ (i X : Nat) (ys : Nat → Nat), Kp nb Hb s.n s.H ∧ s.f 3 = .slice (some ⟨xr, 0, none⟩) g.vars.length g.vars.length ∧ s.f 4 = .slice (some ⟨X, 0, none⟩) (groupsS R g.vars.length i).length (groupsS R g.vars.length i).length ∧ nb ≤ X ∧ LL nb s.H X 35 3 ic (groupsS R g.vars.length i) ys ∧
      s.f 5 = .int .i64 (i : Nat) ∧ i ≤ g.vars.length ∧ k = g.vars.length - i) g.vars.length ?_ ?_
  · exact ⟨0, nb, fun _ => 0, k0, rfl, rfl, Nat.le_refl _, ⟨c0, fun v h => by simp [groupsS] at h, fun u v h => by simp [groupsS] at h, fun v h => by simp [groupsS] at h, fun v h => by simp [groupsS] at h⟩, rfl, Nat.zero_le _, rfl⟩
  rintro kk' ⟨f, n4, H4⟩ ⟨i, X, ys, kp, f3, f4, hX, LX, f5, hiv, rfl⟩ ih
  simp only at f3 f4 f5 ih kp LX
  have hw4 := kp.wf wb
  have hXl := LX.ltx hw4
  have hn4 := kp.le
  by_cases hjr : i < g.vars.length
  · obtain ⟨ri, c1, c2, c3⟩ := row i hjr
    have hyl := live_lt wb (live_of c3)
    have hiw : IntKind.i64.wrap ((i : Int) + 1) = ((i + 1 : Nat) : Int) := by rw [wrap_in (by omega) (by omega)]; rfl
    have hgl : (groupsS R g.vars.length i).length ≤ 64 := by
      unfold groupsS
      rw [List.length_map]
      have := List.length_filter_le (leader R) (List.range i)
      rw [List.length_range] at this
      omega
    have skip : leader R i = false → groupsS R g.vars.length (i + 1) = groupsS R g.vars.length i := fun h => by rw [groupsS_succ, h]; simp
    repeat (first | apply WK.seq | apply WK.block | apply WK.skipSeq | apply WK.skipBlock | apply WK.retSeq | apply WK.retBlock | apply WK.exitSeq | apply WK.exitHere | refine WK.exitOn rfl ?_ | ((first | (refine WK.rgn ?_ ?_; kernel_rfl) | refine AtCall.now ?_); simp (config := { maxSteps := 1000000 }) only [SS, forall_const, wx, tguard, acallee, top, tval, tor, tload, tload2, tload3, tstore, tstore2, tstore3, tidx, tidx2, tfa, tfa2, tlen2, tpick, textr, tbox, talloc, tmake, tbuild, tbs, tbs2, tfld, tfld2, tsl, tsl2, tsl3, tix, tix1, tix2, tap, tap2, tap3, tap4, tsrc, tsrc2, Int.reduceEq, Int.reduceNeg, Go.AM.bound, afill, Nat.reduceGT, Nat.reduceLT, still, still1, flat1, one, Go.AM.splice, Nat.reduceLeDiff, vsh, vbin, vun, vconv, fput, Nat.reduceEqDiff, ↓reduceIte, reduceCtorEq, Int.reduceToNat, Int.reduceLE, Int.reduceLT, Nat.reduceAdd, Nat.reduceMul, f3, f5, hjr, ebs_35_0, ff_14]) | (refine WK.condT ?_ ?_; focus (simp only [ev_tmp, ev_const, fset_apply, Nat.reduceEqDiff, ↓reduceIte, decide_true, decide_false, f3, f5, hjr, ebs_35_0, ff_14]; done)) | (refine WK.condF ?_ ?_; focus (simp only [ev_tmp, ev_const, fset_apply, Nat.reduceEqDiff, ↓reduceIte, decide_true, decide_false, f3, f5, hjr, ebs_35_0, ff_14]; done)))
    have kn := Kp.new n4 H4 (.cells [] 3 true)
    have e1 := hset_at H4 n4 (.cells [] 3 true)
    have kp4 := kp.trans kn
    have L4 := LX.kp hw4 kn
    have hwn := kn.wf hw4
    have hyn : ∀ v (hv : v < (groupsS R g.vars.length i).length), (groupsS R g.vars.length i)[v] ≠ [] → ys v < n4 := fun v hv hn => LX.lty hw4 hv hn
    generalize hset H4 n4 (.cells [] 3 true) = H5 at *
    refine WK.loop (fun k s => ∃ (u Y m : Nat), Kx (fun z => z = n4) (n4 + 1) H5 s.n s.H ∧ s.f 3 = .slice (some ⟨xr, 0, none⟩) g.vars.length g.vars.length ∧ s.f 4 = .slice (some ⟨X, 0, none⟩) (groupsS R g.vars.length i).length (groupsS R g.vars.length i).length ∧ s.f 5 = .int .i64 (i : Nat) ∧
        s.f 6 = .slice (some ⟨Y, 0, none⟩) (grpTo R i u).length (grpTo R i u).length ∧ n4 ≤ Y ∧ s.H Y = .cells ((grpTo R i u).map fun u => .int .i64 (u : Nat)) 3 true ∧ s.f 7 = .int .i64 (m : Nat) ∧ m ≤ i ∧ (m < i ↔ ∃ w, w < u ∧ w < i ∧ mut2 R i w = true) ∧
        s.f 8 = .int .i64 (u : Nat) ∧ u ≤ g.vars.length ∧ k = g.vars.length - u) g.vars.length ?_ ?_
    · exact ⟨0, n4, i, Kx.refl _ _ _, f3, f4, f5, rfl, Nat.le_refl _, e1, rfl, Nat.le_refl _, ⟨fun h => by omega, fun ⟨w, h, _⟩ => by omega⟩, rfl, Nat.zero_le _, rfl⟩
    clear f3 f4 f5 e1 LX
    rintro kk' ⟨f, n6, H6⟩ ⟨u, Y, m, kx, f3, f4, f5, f6, hY, hy, f7, hmi, hmm, f8, huv, rfl⟩ ih2
    simp only at f3 f4 f5 f6 f7 f8 ih2 kx hy
    have hw6 := kx.wf hwn
    have hn6 := kx.le
    have hYl := live_lt hw6 (live_of hy)
    have kp6 : Kp nb Hb n6 H6 := ⟨by omega, fun y hy => (kx.keep y (by omega) (by omega)).trans (kp4.keep y hy), fun h => kx.wf (kp4.wf h)⟩
    have d1 := (kp6.keep xr hxl).trans hxr
    have d2 := (kp6.keep _ hyl).trans c3
    by_cases hju : u < g.vars.length
    · obtain ⟨ru, g1, g2, g3⟩ := row u hju
      have hyu := live_lt wb (live_of g3)
      have d3 := (kp6.keep _ hyu).trans g3
      have c2u := c2 u hju
      have g2i := g2 i hjr
      have huw : IntKind.i64.wrap ((u : Int) + 1) = ((u + 1 : Nat) : Int) := by rw [wrap_in (by omega) (by omega)]; rfl
      cases hm : mut2 R i u
      · have hgt : grpTo R i (u + 1) = grpTo R i u := by rw [grpTo_succ, hm]; rfl
        have hmm' : m < i ↔ ∃ w, w < u + 1 ∧ w < i ∧ mut2 R i w = true := by
          rw [hmm]
          constructor
          · rintro ⟨w, h1, h2⟩; exact ⟨w, by omega, h2⟩
          · rintro ⟨w, h1, h2, h3⟩
            by_cases e : w = u
            · subst e; rw [hm] at h3; cases h3
            · exact ⟨w, by omega, h2, h3⟩
        have fin : ∀ f' : Fr, f' 3 = f 3 → f' 4 = f 4 → f' 5 = f 5 → f' 6 = f 6 → f' 7 = f 7 → f' 8 = .int .i64 (u + 1 : Nat) → ∃ (u' Y m : Nat), Kx (fun z => z = n4) (n4 + 1) H5 n6 H6 ∧ f' 3 = .slice (some ⟨xr, 0, none⟩) g.vars.length g.vars.length ∧ f' 4 = .slice (some ⟨X, 0, none⟩) (groupsS R g.vars.length i).length (groupsS R g.vars.length i).length ∧ f' 5 = .int .i64 (i : Nat) ∧
            f' 6 = .slice (some ⟨Y, 0, none⟩) (grpTo R i u').length (grpTo R i u').length ∧ n4 ≤ Y ∧ H6 Y = .cells ((grpTo R i u').map fun u => .int .i64 (u : Nat)) 3 true ∧ f' 7 = .int .i64 (m : Nat) ∧ m ≤ i ∧ (m < i ↔ ∃ w, w < u' ∧ w < i ∧ mut2 R i w = true) ∧
            f' 8 = .int .i64 (u' : Nat) ∧ u' ≤ g.vars.length ∧ g.vars.length - (u + 1) = g.vars.length - u' :=
          fun f' a b c d e h => ⟨u + 1, Y, m, kx, a.trans f3, b.trans f4, c.trans f5, by rw [d, f6, hgt], hY, by rw [hgt]; exact hy, e.trans f7, hmi, hmm', h, hju, rfl⟩
        cases hiu : R i u
        · rw [hiu] at c2u
          repeat (first | apply WK.seq | apply WK.block | apply WK.skipSeq | apply WK.skipBlock | apply WK.retSeq | apply WK.retBlock | apply WK.exitSeq | apply WK.exitHere | refine WK.exitOn rfl ?_ | ((first | (refine WK.rgn ?_ ?_; kernel_rfl) | refine AtCall.now ?_); simp (config := { maxSteps := 1000000 }) only [SS, forall_const, wx, tguard, acallee, top, tval, tor, tload, tload2, tload3, tstore, tstore2, tstore3, tidx, tidx2, tfa, tfa2, tlen2, tpick, textr, tbox, talloc, tmake, tbuild, tbs, tbs2, tfld, tfld2, tsl, tsl2, tsl3, tix, tix1, tix2, tap, tap2, tap3, tap4, tsrc, tsrc2, Int.reduceEq, Int.reduceNeg, Go.AM.bound, afill, Nat.reduceGT, Nat.reduceLT, still, still1, flat1, one, Go.AM.splice, Nat.reduceLeDiff, vsh, vbin, vun, vconv, fput, Nat.reduceEqDiff, ↓reduceIte, reduceCtorEq, Int.reduceToNat, Int.reduceLE, Int.reduceLT, Nat.reduceAdd, Nat.reduceMul, f3, f5, f8, hju, hjr, c1, d1, d2, d3, g1, c2u, ff_14]) | (refine WK.condT ?_ ?_; focus (simp only [ev_tmp, ev_const, fset_apply, Nat.reduceEqDiff, ↓reduceIte, decide_true, decide_false, f3, f5, f8, hju, hjr, c1, d1, d2, d3, g1, c2u, ff_14]; done)) | (refine WK.condF ?_ ?_; focus (simp only [ev_tmp, ev_const, fset_apply, Nat.reduceEqDiff, ↓reduceIte, decide_true, decide_false, f3, f5, f8, hju, hjr, c1, d1, d2, d3, g1, c2u, ff_14]; done)))
          refine ih2 (g.vars.length - (u + 1)) (by omega) _ (fin _ rfl rfl rfl rfl rfl ?_)
          simp only [packed, fset_apply, Nat.reduceEqDiff, ↓reduceIte, List.getD_cons_zero, List.getD_cons_succ, f8, huw, ff_14]
        · have hui : R u i = false := by
            unfold mut2 at hm; rw [hiu] at hm; simpa using hm
          rw [hiu] at c2u
          rw [hui] at g2i
          repeat (first | apply WK.seq | apply WK.block | apply WK.skipSeq | apply WK.skipBlock | apply WK.retSeq | apply WK.retBlock | apply WK.exitSeq | apply WK.exitHere | refine WK.exitOn rfl ?_ | ((first | (refine WK.rgn ?_ ?_; kernel_rfl) | refine AtCall.now ?_); simp (config := { maxSteps := 1000000 }) only [SS, forall_const, wx, tguard, acallee, top, tval, tor, tload, tload2, tload3, tstore, tstore2, tstore3, tidx, tidx2, tfa, tfa2, tlen2, tpick, textr, tbox, talloc, tmake, tbuild, tbs, tbs2, tfld, tfld2, tsl, tsl2, tsl3, tix, tix1, tix2, tap, tap2, tap3, tap4, tsrc, tsrc2, Int.reduceEq, Int.reduceNeg, Go.AM.bound, afill, Nat.reduceGT, Nat.reduceLT, still, still1, flat1, one, Go.AM.splice, Nat.reduceLeDiff, vsh, vbin, vun, vconv, fput, Nat.reduceEqDiff, ↓reduceIte, reduceCtorEq, Int.reduceToNat, Int.reduceLE, Int.reduceLT, Nat.reduceAdd, Nat.reduceMul, f3, f5, f8, hju, hjr, c1, d1, d2, d3, g1, c2u, g2i, ff_14]) | (refine WK.condT ?_ ?_; focus (simp only [ev_tmp, ev_const, fset_apply, Nat.reduceEqDiff, ↓reduceIte, decide_true, decide_false, f3, f5, f8, hju, hjr, c1, d1, d2, d3, g1, c2u, g2i, ff_14]; done)) | (refine WK.condF ?_ ?_; focus (simp only [ev_tmp, ev_const, fset_apply, Nat.reduceEqDiff, ↓reduceIte, decide_true, decide_false, f3, f5, f8, hju, hjr, c1, d1, d2, d3, g1, c2u, g2i, ff_14]; done)))
          refine ih2 (g.vars.length - (u + 1)) (by omega) _ (fin _ rfl rfl rfl rfl rfl ?_)
          simp only [packed, fset_apply, Nat.reduceEqDiff, ↓reduceIte, List.getD_cons_zero, List.getD_cons_succ, f8, huw, ff_14]
      · have hgt : grpTo R i (u + 1) = grpTo R i u ++ [u] := by rw [grpTo_succ, hm]; rfl
        have hm' := hm
        unfold mut2 at hm'
        rw [Bool.and_eq_true] at hm'
        rw [hm'.1] at c2u
        rw [hm'.2] at g2i
        have hgl' := grpTo_len R i u
        have hbg : (grpTo R i u).length + 1 ≤ bigN := by unfold bigN; omega
        have a1 : ∀ o, hset H6 n6 o Y = _ := fun o => (hset_ne _ _ _ (by omega)).trans hy
        have a2 : [n6].contains Y = false := by simp; omega
        have a3 : ((grpTo R i u).map fun u => Value.int .i64 (u : Nat)).take (grpTo R i u).length = (grpTo R i u).map fun u => Value.int .i64 (u : Nat) := List.take_of_length_le (by simp)
        have hmin : (if (u : Int) < m then (u : Int) else m) = ((if u < m then u else m : Nat) : Int) := by split <;> split <;> omega
        repeat (first | apply WK.seq | apply WK.block | apply WK.skipSeq | apply WK.skipBlock | apply WK.retSeq | apply WK.retBlock | apply WK.exitSeq | apply WK.exitHere | refine WK.exitOn rfl ?_ | ((first | (refine WK.rgn ?_ ?_; kernel_rfl) | refine AtCall.now ?_); simp (config := { maxSteps := 1000000 }) only [SS, forall_const, wx, tguard, acallee, top, tval, tor, tload, tload2, tload3, tstore, tstore2, tstore3, tidx, tidx2, tfa, tfa2, tlen2, tpick, textr, tbox, talloc, tmake, tbuild, tbs, tbs2, tfld, tfld2, tsl, tsl2, tsl3, tix, tix1, tix2, tap, tap2, tap3, tap4, tsrc, tsrc2, Int.reduceEq, Int.reduceNeg, Go.AM.bound, afill, Nat.reduceGT, Nat.reduceLT, still, still1, flat1, one, Go.AM.splice, Nat.reduceLeDiff, vsh, vbin, vun, vconv, fput, Nat.reduceEqDiff, ↓reduceIte, reduceCtorEq, Int.reduceToNat, Int.reduceLE, Int.reduceLT, Nat.reduceAdd, Nat.reduceMul, f3, f5, f6, f7, f8, hju, hjr, c1, d1, d2, d3, g1, c2u, g2i, ebs_35_1, a1, a2, a3, hbg, List.length_map, List.drop_zero, aop_min, tmm, Bool.false_eq_true, ff_14]) | (refine WK.condT ?_ ?_; focus (simp only [ev_tmp, ev_const, fset_apply, Nat.reduceEqDiff, ↓reduceIte, decide_true, decide_false, f3, f5, f6, f7, f8, hju, hjr, c1, d1, d2, d3, g1, c2u, g2i, ebs_35_1, a1, a2, a3, hbg, List.length_map, List.drop_zero, aop_min, tmm, Bool.false_eq_true, ff_14]; done)) | (refine WK.condF ?_ ?_; focus (simp only [ev_tmp, ev_const, fset_apply, Nat.reduceEqDiff, ↓reduceIte, decide_true, decide_false, f3, f5, f6, f7, f8, hju, hjr, c1, d1, d2, d3, g1, c2u, g2i, ebs_35_1, a1, a2, a3, hbg, List.length_map, List.drop_zero, aop_min, tmm, Bool.false_eq_true, ff_14]; done)))
        refine ih2 (g.vars.length - (u + 1)) (by omega) _ ⟨u + 1, n6 + 1, (if u < m then u else m), (((kx.trans (Kp.new n6 H6 _).kx).set _ ?_ (by omega)).trans (Kp.new (n6 + 1) _ _).kx), f3, f4, f5, ?_, by omega, ?_, ?_, by split <;> omega, ?_, ?_, hju, rfl⟩
        · rcases Nat.lt_or_ge n4 Y with h | h
          · exact .inr (by omega)
          · exact .inl (by omega)
        · simp only [packed, fset_apply, Nat.reduceEqDiff, ↓reduceIte, List.getD_cons_zero, List.getD_cons_succ, hgt, ff_14]
          rw [List.length_append]
          rfl
        · rw [hgt, List.map_append]
          exact hset_at _ _ _
        · simp only [packed, fset_apply, Nat.reduceEqDiff, ↓reduceIte, List.getD_cons_zero, List.getD_cons_succ, ff_14]
          split <;> rfl
        · constructor
          · intro h
            by_cases e : m < i
            · obtain ⟨w, h1, h2⟩ := hmm.1 e
              exact ⟨w, by omega, h2⟩
            · exact ⟨u, by omega, by split at h <;> omega, hm⟩
          · rintro ⟨w, h1, h2, h3⟩
            by_cases e : w = u
            · subst e; split <;> omega
            · have := hmm.2 ⟨w, by omega, h2, h3⟩
              split <;> omega
        · simp only [packed, fset_apply, Nat.reduceEqDiff, ↓reduceIte, List.getD_cons_zero, List.getD_cons_succ, f8, huw, ff_14]
    · have hue : u = g.vars.length := by omega
      have c2i := c2 i hjr
      have hld : leader R i = (R i i && decide (m = i)) := by
        unfold leader
        congr 1
        rw [Bool.eq_iff_iff, List.all_eq_true, decide_eq_true_iff]
        constructor
        · intro h
          apply Classical.byContradiction
          intro hc
          obtain ⟨w, h1, h2, h3⟩ := hmm.1 (by omega)
          have := h w (List.mem_range.2 h2)
          rw [h3] at this; cases this
        · intro h w hw'
          rw [Bool.not_eq_true']
          cases e : mut2 R i w
          · rfl
          · have hwi := List.mem_range.1 hw'
            have := hmm.2 ⟨w, by omega, hwi, e⟩
            omega
      have fin : leader R i = false → ∀ f' : Fr, f' 3 = f 3 → f' 4 = f 4 → f' 5 = .int .i64 (i + 1 : Nat) → ∃ (i' X : Nat) (ys : Nat → Nat), Kp nb Hb n6 H6 ∧ f' 3 = .slice (some ⟨xr, 0, none⟩) g.vars.length g.vars.length ∧ f' 4 = .slice (some ⟨X, 0, none⟩) (groupsS R g.vars.length i').length (groupsS R g.vars.length i').length ∧ nb ≤ X ∧ LL nb H6 X 35 3 ic (groupsS R g.vars.length i') ys ∧
          f' 5 = .int .i64 (i' : Nat) ∧ i' ≤ g.vars.length ∧ g.vars.length - (i + 1) = g.vars.length - i' := by
        intro hlf f' h3 h4 h5
        refine ⟨i + 1, X, ys, kp6, h3.trans f3, by rw [skip hlf]; exact h4.trans f4, hX, ?_, h5, hjr, rfl⟩
        rw [skip hlf]
        have low : ∀ v (hv : v < (groupsS R g.vars.length i).length), (groupsS R g.vars.length i)[v] ≠ [] → H6 (ys v) = H5 (ys v) := fun v hv hn => by
          have h1 := hyn v hv hn
          exact kx.keep _ (by omega) (by omega)
        exact ⟨(kx.keep X (by omega) (by omega)).trans L4.hx, fun v hv hn => (low v hv hn).trans (L4.hy v hv hn), L4.inj, L4.fy, L4.ne⟩
      cases hRi : R i i
      · rw [hRi] at c2i hld
        repeat (first | apply WK.seq | apply WK.block | apply WK.skipSeq | apply WK.skipBlock | apply WK.retSeq | apply WK.retBlock | apply WK.exitSeq | apply WK.exitHere | refine WK.exitOn rfl ?_ | ((first | (refine WK.rgn ?_ ?_; kernel_rfl) | refine AtCall.now ?_); simp (config := { maxSteps := 1000000 }) only [SS, forall_const, wx, tguard, acallee, top, tval, tor, tload, tload2, tload3, tstore, tstore2, tstore3, tidx, tidx2, tfa, tfa2, tlen2, tpick, textr, tbox, talloc, tmake, tbuild, tbs, tbs2, tfld, tfld2, tsl, tsl2, tsl3, tix, tix1, tix2, tap, tap2, tap3, tap4, tsrc, tsrc2, Int.reduceEq, Int.reduceNeg, Go.AM.bound, afill, Nat.reduceGT, Nat.reduceLT, still, still1, flat1, one, Go.AM.splice, Nat.reduceLeDiff, vsh, vbin, vun, vconv, fput, Nat.reduceEqDiff, ↓reduceIte, reduceCtorEq, Int.reduceToNat, Int.reduceLE, Int.reduceLT, Nat.reduceAdd, Nat.reduceMul, f3, f5, f8, hju, hjr, c1, d1, d2, c2i, ff_14]) | (refine WK.condT ?_ ?_; focus (simp only [ev_tmp, ev_const, fset_apply, Nat.reduceEqDiff, ↓reduceIte, decide_true, decide_false, f3, f5, f8, hju, hjr, c1, d1, d2, c2i, ff_14]; done)) | (refine WK.condF ?_ ?_; focus (simp only [ev_tmp, ev_const, fset_apply, Nat.reduceEqDiff, ↓reduceIte, decide_true, decide_false, f3, f5, f8, hju, hjr, c1, d1, d2, c2i, ff_14]; done)))
        refine ih (g.vars.length - (i + 1)) (by omega) _ (fin hld _ rfl rfl ?_)
        simp only [packed, fset_apply, Nat.reduceEqDiff, ↓reduceIte, List.getD_cons_zero, List.getD_cons_succ, f5, hiw, ff_14]
      · rw [hRi] at c2i hld
        by_cases hme : m = i
        · have hlt : leader R i = true := by rw [hld]; simp [hme]
          subst hme
          have hln : grpTo R m u ≠ [] := by
            intro e
            have : m ∈ grpTo R m u := by
              unfold grpTo
              rw [List.mem_filter, List.mem_range]
              exact ⟨by omega, by unfold mut2; rw [hRi]; rfl⟩
            rw [e] at this; simp at this
          have hgn : groupsS R g.vars.length (m + 1) = groupsS R g.vars.length m ++ [grpTo R m u] := by rw [groupsS_succ, hlt, hue]; rfl
          have hX6 := (kx.keep X (by omega) (by omega)).trans L4.hx
          have b1 : ∀ o, hset H6 n6 o X = _ := fun o => (hset_ne _ _ _ (by omega)).trans hX6
          have b2 : [n6].contains X = false := by simp; omega
          have b3 : (llcells ys (groupsS R g.vars.length m)).take (groupsS R g.vars.length m).length = llcells ys (groupsS R g.vars.length m) := List.take_of_length_le (by rw [llcells_length]; exact Nat.le_refl _)
          have b4 : (groupsS R g.vars.length m).length + 1 ≤ bigN := by unfold bigN; omega
          repeat (first | apply WK.seq | apply WK.block | apply WK.skipSeq | apply WK.skipBlock | apply WK.retSeq | apply WK.retBlock | apply WK.exitSeq | apply WK.exitHere | refine WK.exitOn rfl ?_ | ((first | (refine WK.rgn ?_ ?_; kernel_rfl) | refine AtCall.now ?_); simp (config := { maxSteps := 1000000 }) only [SS, forall_const, wx, tguard, acallee, top, tval, tor, tload, tload2, tload3, tstore, tstore2, tstore3, tidx, tidx2, tfa, tfa2, tlen2, tpick, textr, tbox, talloc, tmake, tbuild, tbs, tbs2, tfld, tfld2, tsl, tsl2, tsl3, tix, tix1, tix2, tap, tap2, tap3, tap4, tsrc, tsrc2, Int.reduceEq, Int.reduceNeg, Go.AM.bound, afill, Nat.reduceGT, Nat.reduceLT, still, still1, flat1, one, Go.AM.splice, Nat.reduceLeDiff, vsh, vbin, vun, vconv, fput, Nat.reduceEqDiff, ↓reduceIte, reduceCtorEq, Int.reduceToNat, Int.reduceLE, Int.reduceLT, Nat.reduceAdd, Nat.reduceMul, f3, f4, f5, f6, f7, f8, hju, hjr, c1, d1, d2, c2i, ebs_33_1, b1, b2, b3, b4, llcells_length, List.drop_zero, ff_14]) | (refine WK.condT ?_ ?_; focus (simp only [ev_tmp, ev_const, fset_apply, Nat.reduceEqDiff, ↓reduceIte, decide_true, decide_false, f3, f4, f5, f6, f7, f8, hju, hjr, c1, d1, d2, c2i, ebs_33_1, b1, b2, b3, b4, llcells_length, List.drop_zero, ff_14]; done)) | (refine WK.condF ?_ ?_; focus (simp only [ev_tmp, ev_const, fset_apply, Nat.reduceEqDiff, ↓reduceIte, decide_true, decide_false, f3, f4, f5, f6, f7, f8, hju, hjr, c1, d1, d2, c2i, ebs_33_1, b1, b2, b3, b4, llcells_length, List.drop_zero, ff_14]; done)))
          have low : ∀ v (hv : v < (groupsS R g.vars.length m).length), (groupsS R g.vars.length m)[v] ≠ [] → ys v < n4 ∧ H6 (ys v) = H5 (ys v) := fun v hv hn => by
            have h1 := hyn v hv hn
            exact ⟨h1, kx.keep _ (by omega) (by omega)⟩
          refine ih (g.vars.length - (m + 1)) (by omega) _ ⟨m + 1, n6 + 1, upd ys (groupsS R g.vars.length m).length Y, (((kp6.trans (Kp.new n6 H6 _)).set _ hX (by omega)).trans (Kp.new (n6 + 1) _ _)), f3, ?_, by omega, ?_, ?_, hjr, rfl⟩
          · simp only [packed, fset_apply, Nat.reduceEqDiff, ↓reduceIte, List.getD_cons_zero, List.getD_cons_succ, hgn, ff_14]
            rw [List.length_append]
            rfl
          · rw [hgn]
            refine LL.push (fun _ => L4) (fun _ => ?_) (fun _ => by omega) (fun _ => by omega) ?_ (fun v hv hn => ?_) (fun v hv hn => ?_) (fun v hv hn => ?_)
            · rw [flat_ic]
              exact (hset_ne _ _ _ (by omega)).trans ((hset_ne _ _ _ (by omega)).trans ((hset_ne _ _ _ (by omega)).trans hy))
            · rw [sl_pos (by simpa using hln)]
              exact hset_at _ _ _
            · have := low v hv hn; omega
            · have := low v hv hn; omega
            · have h1 := low v hv hn
              exact (hset_ne _ _ _ (by omega)).trans ((hset_ne _ _ _ (L4.ne v hv hn)).trans ((hset_ne _ _ _ (by omega)).trans h1.2))
          · simp only [packed, fset_apply, Nat.reduceEqDiff, ↓reduceIte, List.getD_cons_zero, List.getD_cons_succ, f5, hiw, ff_14]
        · have hlf : leader R i = false := by rw [hld]; simp [hme]
          have hme' : ((m : Int) = i) = False := by simp; omega
          repeat (first | apply WK.seq | apply WK.block | apply WK.skipSeq | apply WK.skipBlock | apply WK.retSeq | apply WK.retBlock | apply WK.exitSeq | apply WK.exitHere | refine WK.exitOn rfl ?_ | ((first | (refine WK.rgn ?_ ?_; kernel_rfl) | refine AtCall.now ?_); simp (config := { maxSteps := 1000000 }) only [SS, forall_const, wx, tguard, acallee, top, tval, tor, tload, tload2, tload3, tstore, tstore2, tstore3, tidx, tidx2, tfa, tfa2, tlen2, tpick, textr, tbox, talloc, tmake, tbuild, tbs, tbs2, tfld, tfld2, tsl, tsl2, tsl3, tix, tix1, tix2, tap, tap2, tap3, tap4, tsrc, tsrc2, Int.reduceEq, Int.reduceNeg, Go.AM.bound, afill, Nat.reduceGT, Nat.reduceLT, still, still1, flat1, one, Go.AM.splice, Nat.reduceLeDiff, vsh, vbin, vun, vconv, fput, Nat.reduceEqDiff, ↓reduceIte, reduceCtorEq, Int.reduceToNat, Int.reduceLE, Int.reduceLT, Nat.reduceAdd, Nat.reduceMul, f3, f5, f7, f8, hju, hjr, c1, d1, d2, c2i, hme', hme, ff_14]) | (refine WK.condT ?_ ?_; focus (simp only [ev_tmp, ev_const, fset_apply, Nat.reduceEqDiff, ↓reduceIte, decide_true, decide_false, f3, f5, f7, f8, hju, hjr, c1, d1, d2, c2i, hme', hme, ff_14]; done)) | (refine WK.condF ?_ ?_; focus (simp only [ev_tmp, ev_const, fset_apply, Nat.reduceEqDiff, ↓reduceIte, decide_true, decide_false, f3, f5, f7, f8, hju, hjr, c1, d1, d2, c2i, hme', hme, ff_14]; done)))
          refine ih (g.vars.length - (i + 1)) (by omega) _ (fin hlf _ rfl rfl ?_)
          simp only [packed, fset_apply, Nat.reduceEqDiff, ↓reduceIte, List.getD_cons_zero, List.getD_cons_succ, f5, hiw, ff_14]
  · repeat (first | apply WK.seq | apply WK.block | apply WK.skipSeq | apply WK.skipBlock | apply WK.retSeq | apply WK.retBlock | apply WK.exitSeq | apply WK.exitHere | refine WK.exitOn rfl ?_ | ((first | (refine WK.rgn ?_ ?_; kernel_rfl) | refine AtCall.now ?_); simp (config := { maxSteps := 1000000 }) only [SS, forall_const, wx, tguard, acallee, top, tval, tor, tload, tload2, tload3, tstore, tstore2, tstore3, tidx, tidx2, tfa, tfa2, tlen2, tpick, textr, tbox, talloc, tmake, tbuild, tbs, tbs2, tfld, tfld2, tsl, tsl2, tsl3, tix, tix1, tix2, tap, tap2, tap3, tap4, tsrc, tsrc2, Int.reduceEq, Int.reduceNeg, Go.AM.bound, afill, Nat.reduceGT, Nat.reduceLT, still, still1, flat1, one, Go.AM.splice, Nat.reduceLeDiff, vsh, vbin, vun, vconv, fput, Nat.reduceEqDiff, ↓reduceIte, reduceCtorEq, Int.reduceToNat, Int.reduceLE, Int.reduceLT, Nat.reduceAdd, Nat.reduceMul, f3, f4, f5, hjr, ff_14]) | (refine WK.condT ?_ ?_; focus (simp only [ev_tmp, ev_const, fset_apply, Nat.reduceEqDiff, ↓reduceIte, decide_true, decide_false, f3, f4, f5, hjr, ff_14]; done)) | (refine WK.condF ?_ ?_; focus (simp only [ev_tmp, ev_const, fset_apply, Nat.reduceEqDiff, ↓reduceIte, decide_true, decide_false, f3, f4, f5, hjr, ff_14]; done)))
    (first | refine WK.retNil ⟨Or.inr rfl, _, rfl, ?_, ?_⟩ | refine WK.skipNil ⟨Or.inl rfl, _, rfl, ?_, ?_⟩)
    · exact fun y hy => (kp.keep y (by omega)).trans (kb2.keep y hy)
    · simp only [packed, fset_apply, Nat.reduceEqDiff, ↓reduceIte, List.getD_cons_zero, List.getD_cons_succ, f4, ff_14]
      have : i = g.vars.length := by omega
      subst this
      exact ⟨R, X, ys, hR, by omega, rfl, LX.hx, LX.hy, LX.inj, fun v hv hn => by have := LX.fy v hv hn; omega, LX.ne⟩
end Go.Proofs.Ytplnndgdklfnfaa
