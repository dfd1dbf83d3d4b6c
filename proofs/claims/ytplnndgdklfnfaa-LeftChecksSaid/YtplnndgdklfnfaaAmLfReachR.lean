/- A part of a proof. Its conditions: none. -/
import Derived.Test.YtplnndgdklfnfaaAmLfFirst
import Derived.Test.YtplnndgdklfnfaaAmC
import Derived.Test.YtplnndgdklfnfaaAmLfReach
set_option linter.all false
namespace Go.Proofs.Ytplnndgdklfnfaa
open Go.AM

set_option maxHeartbeats 8000000 in
theorem reachR_gives {v : Value} {g : Gram} {n : Nat} {H : Heap} (hw : WF n H) (hg : RG H v g) (wg : WG g) (ok : RightOK g) :
    Gives Try.prog 10 [v] n H fun v _ H' => ∃ rows ys x, n ≤ x ∧ v = .slice (some ⟨x, 0, none⟩) g.vars.length g.vars.length ∧ LL n H' x 30 4 bc rows ys ∧ rows.length = g.vars.length ∧ (∀ r ∈ rows, r.length = g.vars.length) ∧ ∀ v u, rowsB rows v u = true ↔ Rch g v u := by
  have hg0 := hg
  obtain ⟨pt, pv, pr, rfl, ht, hv, hr⟩ := hg
  refine Gives.of orders ok10 (Nat.le_of_ble_eq_true rfl) ?_
  have hk := Kp.new n H (.cells (gcells pt pv pr g) 25 true)
  have hb := hset_at H n (.cells (gcells pt pv pr g) 25 true)
  have hi := ok.inG
  have hv64 := ok.vars
  have hv1 := ok.vars1
-- function 10
  repeat (first | apply WK.seq | apply WK.block | apply WK.skipSeq | apply WK.skipBlock | apply WK.retSeq | apply WK.retBlock | apply WK.exitSeq | apply WK.exitHere | refine WK.exitOn rfl ?_)
  (refine WK.rgn ?_ ?_; kernel_rfl; simp (config := { maxSteps := 1000000 }) only [SS, forall_const, wx, tguard, acallee, top, tval, fput, tor, vsh, vbin, tload, tload2, tload3, tstore, tstore2, tstore3, Go.AM.splice, one, tidx, tidx2, tfa, tfa2, tlen2, tpick, tbox, tbs, tbs2, afill, tap, tap2, tap3, tap4, tsrc, tsrc2, Int.reduceEq, Int.reduceNeg, Nat.reduceGT, Nat.reduceLT, Nat.reduceLeDiff, Nat.reduceEqDiff, ↓reduceIte, reduceCtorEq, Int.reduceToNat, Int.reduceLE, Int.reduceLT, Nat.reduceAdd, Nat.reduceMul, box_cells, box_one, ff_10])
  generalize hset H n (.cells (gcells pt pv pr g) 25 true) = H1 at *
  repeat (first | apply WK.seq | apply WK.block | apply WK.skipSeq | apply WK.skipBlock | apply WK.retSeq | apply WK.retBlock | apply WK.exitSeq | apply WK.exitHere | refine WK.exitOn rfl ?_)
  (refine WK.rgn ?_ ?_; kernel_rfl; simp (config := { maxSteps := 1000000 }) only [SS, forall_const, wx, tguard, acallee, top, tval, fput, tor, vsh, vbin, tload, tload2, tload3, tstore, tstore2, tstore3, Go.AM.splice, one, tidx, tidx2, tfa, tfa2, tlen2, tpick, tbox, tbs, tbs2, afill, tap, tap2, tap3, tap4, tsrc, tsrc2, Int.reduceEq, Int.reduceNeg, Nat.reduceGT, Nat.reduceLT, Nat.reduceLeDiff, Nat.reduceEqDiff, ↓reduceIte, reduceCtorEq, Int.reduceToNat, Int.reduceLE, Int.reduceLT, Nat.reduceAdd, Nat.reduceMul, ebs_28_0, ff_10])
  have k1 := Kp.new (n + 1) H1 (.cells [] 30 true)
  have b1 := hset_at H1 (n + 1) (.cells [] 30 true)
  have b0 := (k1.keep n (by omega)).trans hb
  generalize hset H1 (n + 1) (.cells [] 30 true) = H2 at *
  have kk := hk.trans k1
  repeat (first | apply WK.seq | apply WK.block | apply WK.skipSeq | apply WK.skipBlock | apply WK.retSeq | apply WK.retBlock | apply WK.exitSeq | apply WK.exitHere | refine WK.exitOn rfl ?_ | ((first | (refine WK.rgn ?_ ?_; kernel_rfl) | refine AtCall.now ?_); simp (config := { maxSteps := 1000000 }) only [SS, forall_const, wx, tguard, acallee, top, tval, fput, tor, vsh, vbin, tload, tload2, tload3, tstore, tstore2, tstore3, Go.AM.splice, one, tidx, tidx2, tfa, tfa2, tlen2, tpick, tbox, tbs, tbs2, afill, tap, tap2, tap3, tap4, tsrc, tsrc2, Int.reduceEq, Int.reduceNeg, Nat.reduceGT, Nat.reduceLT, Nat.reduceLeDiff, Nat.reduceEqDiff, ↓reduceIte, reduceCtorEq, Int.reduceToNat, Int.reduceLE, Int.reduceLT, Nat.reduceAdd, Nat.reduceMul, ff_10]) | (refine WK.condT ?_ ?_; focus (simp only [ev_tmp, ev_const, fset_apply, Nat.reduceEqDiff, ↓reduceIte, decide_true, decide_false, ff_10]; done)) | (refine WK.condF ?_ ?_; focus (simp only [ev_tmp, ev_const, fset_apply, Nat.reduceEqDiff, ↓reduceIte, decide_true, decide_false, ff_10]; done)))
  -- rows of single steps
  refine WK.loop (fun k s => ∃ (i X : Nat) (rows : List (List Bool)) (ys : Nat → Nat), Kp n H s.n s.H ∧ s.f 1 = .pointer (some ⟨n, 0, none⟩) ∧ s.H n = .cells (gcells pt pv pr g) 25 true ∧ s.f 3 = .slice (some ⟨X, 0, none⟩) i i ∧ n + 1 ≤ X ∧ LL (n + 1) s.H X 30 4 bc rows ys ∧ rows.length = i ∧
      s.f 4 = .int .i64 (i : Nat) ∧ i ≤ g.vars.length ∧ (∀ v (h : v < rows.length), rows[v].length = g.vars.length ∧ ∀ u (hu : u < rows[v].length), rows[v][u] = true ↔ Beg g v u) ∧ k = g.vars.length - i) g.vars.length ?_ ?_
  · exact ⟨0, n + 1, [], fun _ => 0, kk, rfl, b0, rfl, Nat.le_refl _, ⟨b1, fun v h => by simp at h, fun u v h => by simp at h, fun v h => by simp at h, fun v h => by simp at h⟩, rfl, rfl, Nat.zero_le _, fun v h => by simp at h, rfl⟩
  rintro kk' ⟨f, n4, H4⟩ ⟨i, X, rows, ys, kp, f1, hb4, f3, hX, L, hrl, f4, hiv, hrows, rfl⟩ ih
  simp only at f1 hb4 f3 f4 ih kp L
  have hw4 := kp.wf hw
  have hXl := L.ltx hw4
  have hn4 := kp.le
  by_cases hjr : i < g.vars.length
  · have hiw : IntKind.i64.wrap ((i : Int) + 1) = ((i + 1 : Nat) : Int) := by rw [wrap_in (by omega) (by omega)]; rfl
    repeat (first | apply WK.seq | apply WK.block | apply WK.skipSeq | apply WK.skipBlock | apply WK.retSeq | apply WK.retBlock | apply WK.exitSeq | apply WK.exitHere | refine WK.exitOn rfl ?_ | ((first | (refine WK.rgn ?_ ?_; kernel_rfl) | refine AtCall.now ?_); simp (config := { maxSteps := 1000000 }) only [SS, forall_const, wx, tguard, acallee, top, tval, fput, tor, vsh, vbin, tload, tload2, tload3, tstore, tstore2, tstore3, Go.AM.splice, one, tidx, tidx2, tfa, tfa2, tlen2, tpick, tbox, tbs, tbs2, afill, tap, tap2, tap3, tap4, tsrc, tsrc2, Int.reduceEq, Int.reduceNeg, Nat.reduceGT, Nat.reduceLT, Nat.reduceLeDiff, Nat.reduceEqDiff, ↓reduceIte, reduceCtorEq, Int.reduceToNat, Int.reduceLE, Int.reduceLT, Nat.reduceAdd, Nat.reduceMul, f1, f4, hb4, gc_1, hjr, ebs_30_0, ff_10]) | (refine WK.condT ?_ ?_; focus (simp only [ev_tmp, ev_const, fset_apply, Nat.reduceEqDiff, ↓reduceIte, decide_true, decide_false, f1, f4, hb4, gc_1, hjr, ebs_30_0, ff_10]; done)) | (refine WK.condF ?_ ?_; focus (simp only [ev_tmp, ev_const, fset_apply, Nat.reduceEqDiff, ↓reduceIte, decide_true, decide_false, f1, f4, hb4, gc_1, hjr, ebs_30_0, ff_10]; done)))
    have kn := Kp.new n4 H4 (.cells [] 4 true)
    have c1 := hset_at H4 n4 (.cells [] 4 true)
    have kp4 := kp.trans kn
    have hb5 := (kn.keep n (by omega)).trans hb4
    have L4 := L.kp hw4 kn
    have hwn := kn.wf hw4
    have hyn : ∀ v (hv : v < rows.length), rows[v] ≠ [] → ys v ≠ n4 := fun v hv hn => by have := L.lty hw4 hv hn; omega
    generalize hset H4 n4 (.cells [] 4 true) = H5 at *
    refine WK.loop (fun k s => ∃ (u Y : Nat) (row : List Bool), Kx (fun z => z = n4) (n4 + 1) H5 s.n s.H ∧ s.f 1 = .pointer (some ⟨n, 0, none⟩) ∧ s.f 3 = .slice (some ⟨X, 0, none⟩) i i ∧ s.f 4 = .int .i64 (i : Nat) ∧ s.f 5 = .slice (some ⟨Y, 0, none⟩) u u ∧ n4 ≤ Y ∧ s.H Y = .cells (row.map .bool) 4 true ∧ row.length = u ∧
        s.f 6 = .int .i64 (u : Nat) ∧ u ≤ g.vars.length ∧ (∀ w (h : w < row.length), row[w] = true ↔ Beg g i w) ∧ k = g.vars.length - u) g.vars.length ?_ ?_
    · exact ⟨0, n4, [], Kx.refl _ _ _, f1, f3, f4, rfl, Nat.le_refl _, c1, rfl, rfl, Nat.zero_le _, fun w h => by simp at h, rfl⟩
    clear f1 f3 f4 c1 L
    rintro kk' ⟨f, n6, H6⟩ ⟨u, Y, row, kx, f1, f3, f4, f5, hY, hy, hrow, f6, huv, hmem, rfl⟩ ih2
    simp only at f1 f3 f4 f5 f6 ih2 kx hy
    have hw6 := kx.wf hwn
    have hn6 := kx.le
    have hYl := live_lt hw6 (live_of hy)
    have hb6 := (kx.keep n (by omega) (by omega)).trans hb5
    have kp6 : Kp n H n6 H6 := ⟨by omega, fun y hy => (kx.keep y (by omega) (by omega)).trans (kp4.keep y hy), fun h => kx.wf (kp4.wf h)⟩
    by_cases hjl : u < g.vars.length
    · have huw : IntKind.i64.wrap ((u : Int) + 1) = ((u + 1 : Nat) : Int) := by rw [wrap_in (by omega) (by omega)]; rfl
      repeat (first | apply WK.seq | apply WK.block | apply WK.skipSeq | apply WK.skipBlock | apply WK.retSeq | apply WK.retBlock | apply WK.exitSeq | apply WK.exitHere | refine WK.exitOn rfl ?_ | ((first | (refine WK.rgn ?_ ?_; kernel_rfl) | refine AtCall.now ?_); simp (config := { maxSteps := 1000000 }) only [SS, forall_const, wx, tguard, acallee, top, tval, fput, tor, vsh, vbin, tload, tload2, tload3, tstore, tstore2, tstore3, Go.AM.splice, one, tidx, tidx2, tfa, tfa2, tlen2, tpick, tbox, tbs, tbs2, afill, tap, tap2, tap3, tap4, tsrc, tsrc2, Int.reduceEq, Int.reduceNeg, Nat.reduceGT, Nat.reduceLT, Nat.reduceLeDiff, Nat.reduceEqDiff, ↓reduceIte, reduceCtorEq, Int.reduceToNat, Int.reduceLE, Int.reduceLT, Nat.reduceAdd, Nat.reduceMul, f1, f4, f5, f6, hb6, gc_1, gc_len, gc_all, hjl, ff_10]) | (refine WK.condT ?_ ?_; focus (simp only [ev_tmp, ev_const, fset_apply, Nat.reduceEqDiff, ↓reduceIte, decide_true, decide_false, f1, f4, f5, f6, hb6, gc_1, gc_len, gc_all, hjl, ff_10]; done)) | (refine WK.condF ?_ ?_; focus (simp only [ev_tmp, ev_const, fset_apply, Nat.reduceEqDiff, ↓reduceIte, decide_true, decide_false, f1, f4, f5, f6, hb6, gc_1, gc_len, gc_all, hjl, ff_10]; done)))
      refine AtCall.by (first_gives hw6 (hg0.mono hw kp6) wg ok) ?_
      rintro v n7 H7 k7 ⟨t, rfl, ht'⟩
      have hn7 := k7.le
      have hy7 := (k7.keep Y hYl).trans hy
      have a1 : ∀ o, hset H7 n7 o Y = _ := fun o => (hset_ne _ _ _ (by omega)).trans hy7
      have a2 : [n7].contains Y = false := by simp; omega
      have a3 : (row.map Value.bool).take u = row.map Value.bool := List.take_of_length_le (by rw [List.length_map]; omega)
      have a4 : u ≤ (row.map Value.bool).length := by rw [List.length_map]; omega
      have a5 : u + 1 ≤ bigN := by unfold bigN; omega
      simp (config := { maxSteps := 1000000 }) only [SS, forall_const, wx, tguard, acallee, top, tval, fput, tor, vsh, vbin, tload, tload2, tload3, tstore, tstore2, tstore3, Go.AM.splice, one, tidx, tidx2, tfa, tfa2, tlen2, tpick, tbox, tbs, tbs2, afill, tap, tap2, tap3, tap4, tsrc, tsrc2, Int.reduceEq, Int.reduceNeg, Nat.reduceGT, Nat.reduceLT, Nat.reduceLeDiff, Nat.reduceEqDiff, ↓reduceIte, reduceCtorEq, Int.reduceToNat, Int.reduceLE, Int.reduceLT, Nat.reduceAdd, Nat.reduceMul, f5, ebs_30_1, a1, a2, a3, a4, a5, List.drop_zero, ff_10]
      repeat (first | apply WK.seq | apply WK.block | apply WK.skipSeq | apply WK.skipBlock | apply WK.retSeq | apply WK.retBlock | apply WK.exitSeq | apply WK.exitHere | refine WK.exitOn rfl ?_ | ((first | (refine WK.rgn ?_ ?_; kernel_rfl) | refine AtCall.now ?_); simp (config := { maxSteps := 1000000 }) only [SS, forall_const, wx, tguard, acallee, top, tval, fput, tor, vsh, vbin, tload, tload2, tload3, tstore, tstore2, tstore3, Go.AM.splice, one, tidx, tidx2, tfa, tfa2, tlen2, tpick, tbox, tbs, tbs2, afill, tap, tap2, tap3, tap4, tsrc, tsrc2, Int.reduceEq, Int.reduceNeg, Nat.reduceGT, Nat.reduceLT, Nat.reduceLeDiff, Nat.reduceEqDiff, ↓reduceIte, reduceCtorEq, Int.reduceToNat, Int.reduceLE, Int.reduceLT, Nat.reduceAdd, Nat.reduceMul, f6, ff_10]) | (refine WK.condT ?_ ?_; focus (simp only [ev_tmp, ev_const, fset_apply, Nat.reduceEqDiff, ↓reduceIte, decide_true, decide_false, f6, ff_10]; done)) | (refine WK.condF ?_ ?_; focus (simp only [ev_tmp, ev_const, fset_apply, Nat.reduceEqDiff, ↓reduceIte, decide_true, decide_false, f6, ff_10]; done)))
      refine ih2 (g.vars.length - (u + 1)) (by omega) _ ⟨u + 1, n7 + 1, row ++ [t], ((kx.trans k7.kx).trans (Kp.new n7 H7 _).kx).set _ ?_ (by omega) |>.trans (Kp.new (n7 + 1) _ _).kx, f1, f3, f4, rfl, by omega, ?_, by rw [List.length_append, hrow]; rfl, ?_, hjl, fun w h => ?_, rfl⟩
      · rcases Nat.lt_or_ge n4 Y with h | h
        · exact .inr (by omega)
        · exact .inl (by omega)
      · rw [List.map_append]
        exact hset_at _ _ _
      · simp only [packed, fset_apply, Nat.reduceEqDiff, ↓reduceIte, List.getD_cons_zero, List.getD_cons_succ, f6, huw, ff_10]
      · rw [List.getElem_append]
        split
        · rename_i h1; exact hmem w h1
        · rename_i h1
          have : w = u := by simp at h; omega
          subst this
          simpa using ht'
    · have hue : u = g.vars.length := by omega
      have hrn : row ≠ [] := by intro e; rw [e] at hrow; simp at hrow; omega
      have hX6 := (kx.keep X (by omega) (by omega)).trans L4.hx
      have b1 : ∀ o, hset H6 n6 o X = _ := fun o => (hset_ne _ _ _ (by omega)).trans hX6
      have b2 : [n6].contains X = false := by simp; omega
      have b3 : (llcells ys rows).take i = llcells ys rows := List.take_of_length_le (by rw [llcells_length]; omega)
      have b4 : i ≤ (llcells ys rows).length := by rw [llcells_length]; omega
      have b5 : i + 1 ≤ bigN := by unfold bigN; omega
      have hYX : Y ≠ X := by omega
      have hlowy : ∀ v (hv : v < rows.length), rows[v] ≠ [] → ys v < n4 ∧ H6 (ys v) = H5 (ys v) := fun v hv hn => by
        have h1 := L4.lty hwn hv hn
        have h2 := live_of (L4.hy v hv hn)
        have h3 : ys v ≠ n4 := hyn v hv hn
        exact ⟨by omega, kx.keep _ h1 h3⟩
      repeat (first | apply WK.seq | apply WK.block | apply WK.skipSeq | apply WK.skipBlock | apply WK.retSeq | apply WK.retBlock | apply WK.exitSeq | apply WK.exitHere | refine WK.exitOn rfl ?_ | ((first | (refine WK.rgn ?_ ?_; kernel_rfl) | refine AtCall.now ?_); simp (config := { maxSteps := 1000000 }) only [SS, forall_const, wx, tguard, acallee, top, tval, fput, tor, vsh, vbin, tload, tload2, tload3, tstore, tstore2, tstore3, Go.AM.splice, one, tidx, tidx2, tfa, tfa2, tlen2, tpick, tbox, tbs, tbs2, afill, tap, tap2, tap3, tap4, tsrc, tsrc2, Int.reduceEq, Int.reduceNeg, Nat.reduceGT, Nat.reduceLT, Nat.reduceLeDiff, Nat.reduceEqDiff, ↓reduceIte, reduceCtorEq, Int.reduceToNat, Int.reduceLE, Int.reduceLT, Nat.reduceAdd, Nat.reduceMul, f1, f3, f4, f5, f6, hb6, gc_1, hjl, ebs_28_1, b1, b2, b3, b4, b5, List.drop_zero, ff_10]) | (refine WK.condT ?_ ?_; focus (simp only [ev_tmp, ev_const, fset_apply, Nat.reduceEqDiff, ↓reduceIte, decide_true, decide_false, f1, f3, f4, f5, f6, hb6, gc_1, hjl, ebs_28_1, b1, b2, b3, b4, b5, List.drop_zero, ff_10]; done)) | (refine WK.condF ?_ ?_; focus (simp only [ev_tmp, ev_const, fset_apply, Nat.reduceEqDiff, ↓reduceIte, decide_true, decide_false, f1, f3, f4, f5, f6, hb6, gc_1, hjl, ebs_28_1, b1, b2, b3, b4, b5, List.drop_zero, ff_10]; done)))
      refine ih (g.vars.length - (i + 1)) (by omega) _ ⟨i + 1, n6 + 1, rows ++ [row], upd ys rows.length Y, ((kp6.trans (Kp.new n6 H6 _)).set _ (by omega) (by omega)).trans (Kp.new (n6 + 1) _ _), f1, (hset_ne _ _ _ (by omega)).trans ((hset_ne _ _ _ (by omega)).trans ((hset_ne _ _ _ (by omega)).trans hb6)), rfl, by omega, ?_, by rw [List.length_append, hrl]; rfl, ?_, hjr, fun v h => ?_, rfl⟩
      · refine LL.push (fun _ => L4) (fun _ => ?_) (fun _ => by omega) (fun _ => by omega) ?_ (fun v hv hn => ?_) (fun v hv hn => ?_) (fun v hv hn => ?_)
        · rw [flat_bc]
          exact (hset_ne _ _ _ (by omega)).trans ((hset_ne _ _ _ hYX).trans ((hset_ne _ _ _ (by omega)).trans hy))
        · rw [sl_pos (by simpa using hrn), hrow]
          exact hset_at _ _ _
        · have := hlowy v hv hn; omega
        · have := hlowy v hv hn; omega
        · have h1 := hlowy v hv hn
          have h2 := L4.ne v hv hn
          exact (hset_ne _ _ _ (by omega)).trans ((hset_ne _ _ _ h2).trans ((hset_ne _ _ _ (by omega)).trans h1.2))
      · simp only [packed, fset_apply, Nat.reduceEqDiff, ↓reduceIte, List.getD_cons_zero, List.getD_cons_succ, f4, hiw, ff_10]
      · by_cases h1 : v < rows.length
        · rw [List.getElem_append_left h1]
          exact hrows v h1
        · have hvi : v = rows.length := by simp at h; omega
          have e : (rows ++ [row])[v] = row := by subst hvi; simp
          rw [e]
          have hvi' : (v : Int) = i := by omega
          rw [hvi']
          exact ⟨by omega, hmem⟩
  · have hie : i = g.vars.length := by omega
    have hW : Warsh g (rowsB rows) 0 0 0 := by
      refine Warsh.start (fun x y hx hy => ?_) (fun x y e => ?_)
      · obtain ⟨h1, h2⟩ := hrows x (by omega)
        have hy' : y < rows[x].length := by rw [h1]; exact hy
        rw [← h2 y hy', rowsB_at (by omega) hy']
      · obtain ⟨hx, hy⟩ := rowsB_lt e
        have := (hrows x hx).1
        omega
    have hlen : ∀ r ∈ rows, r.length = g.vars.length := fun r hr => by
      obtain ⟨v, hv, rfl⟩ := List.getElem_of_mem hr
      exact (hrows v hv).1
    rw [hie] at f3
    repeat (first | apply WK.seq | apply WK.block | apply WK.skipSeq | apply WK.skipBlock | apply WK.retSeq | apply WK.retBlock | apply WK.exitSeq | apply WK.exitHere | refine WK.exitOn rfl ?_ | ((first | (refine WK.rgn ?_ ?_; kernel_rfl) | refine AtCall.now ?_); simp (config := { maxSteps := 1000000 }) only [SS, forall_const, wx, tguard, acallee, top, tval, fput, tor, vsh, vbin, tload, tload2, tload3, tstore, tstore2, tstore3, Go.AM.splice, one, tidx, tidx2, tfa, tfa2, tlen2, tpick, tbox, tbs, tbs2, afill, tap, tap2, tap3, tap4, tsrc, tsrc2, Int.reduceEq, Int.reduceNeg, Nat.reduceGT, Nat.reduceLT, Nat.reduceLeDiff, Nat.reduceEqDiff, ↓reduceIte, reduceCtorEq, Int.reduceToNat, Int.reduceLE, Int.reduceLT, Nat.reduceAdd, Nat.reduceMul, f1, f4, hb4, gc_1, hjr, ff_10]) | (refine WK.condT ?_ ?_; focus (simp only [ev_tmp, ev_const, fset_apply, Nat.reduceEqDiff, ↓reduceIte, decide_true, decide_false, f1, f4, hb4, gc_1, hjr, ff_10]; done)) | (refine WK.condF ?_ ?_; focus (simp only [ev_tmp, ev_const, fset_apply, Nat.reduceEqDiff, ↓reduceIte, decide_true, decide_false, f1, f4, hb4, gc_1, hjr, ff_10]; done)))
    refine WK.loop (fun q s => ∃ (k : Nat) (rows : List (List Bool)), Kp n H s.n s.H ∧ s.f 1 = .pointer (some ⟨n, 0, none⟩) ∧ s.H n = .cells (gcells pt pv pr g) 25 true ∧ s.f 3 = .slice (some ⟨X, 0, none⟩) g.vars.length g.vars.length ∧ LL (n + 1) s.H X 30 4 bc rows ys ∧ rows.length = g.vars.length ∧ (∀ r ∈ rows, r.length = g.vars.length) ∧ Warsh g (rowsB rows) k 0 0 ∧
        s.f 7 = .int .i64 (k : Nat) ∧ k ≤ g.vars.length ∧ q = g.vars.length - k) g.vars.length ?_ ?_
    · exact ⟨0, rows, kp, f1, hb4, f3, L, by omega, hlen, hW, rfl, Nat.zero_le _, rfl⟩
    clear ih f1 f3 f4 hb4 kp L hrl hrows hW hlen hw4 hXl hn4
    rintro q1 ⟨f, n5, H5⟩ ⟨k, rows, kp, f1, hb5, f3, L, hrl, hlen, hW, f7, hkv, rfl⟩ ih
    simp only at f1 f3 f7 ih hb5 kp L
    by_cases hjk : k < g.vars.length
    · have hkw : IntKind.i64.wrap ((k : Int) + 1) = ((k + 1 : Nat) : Int) := by rw [wrap_in (by omega) (by omega)]; rfl
      repeat (first | apply WK.seq | apply WK.block | apply WK.skipSeq | apply WK.skipBlock | apply WK.retSeq | apply WK.retBlock | apply WK.exitSeq | apply WK.exitHere | refine WK.exitOn rfl ?_ | ((first | (refine WK.rgn ?_ ?_; kernel_rfl) | refine AtCall.now ?_); simp (config := { maxSteps := 1000000 }) only [SS, forall_const, wx, tguard, acallee, top, tval, fput, tor, vsh, vbin, tload, tload2, tload3, tstore, tstore2, tstore3, Go.AM.splice, one, tidx, tidx2, tfa, tfa2, tlen2, tpick, tbox, tbs, tbs2, afill, tap, tap2, tap3, tap4, tsrc, tsrc2, Int.reduceEq, Int.reduceNeg, Nat.reduceGT, Nat.reduceLT, Nat.reduceLeDiff, Nat.reduceEqDiff, ↓reduceIte, reduceCtorEq, Int.reduceToNat, Int.reduceLE, Int.reduceLT, Nat.reduceAdd, Nat.reduceMul, f1, f7, hb5, gc_1, hjk, ff_10]) | (refine WK.condT ?_ ?_; focus (simp only [ev_tmp, ev_const, fset_apply, Nat.reduceEqDiff, ↓reduceIte, decide_true, decide_false, f1, f7, hb5, gc_1, hjk, ff_10]; done)) | (refine WK.condF ?_ ?_; focus (simp only [ev_tmp, ev_const, fset_apply, Nat.reduceEqDiff, ↓reduceIte, decide_true, decide_false, f1, f7, hb5, gc_1, hjk, ff_10]; done)))
      refine WK.loop (fun q s => ∃ (v : Nat) (rows : List (List Bool)), Kp n H s.n s.H ∧ s.f 1 = .pointer (some ⟨n, 0, none⟩) ∧ s.H n = .cells (gcells pt pv pr g) 25 true ∧ s.f 3 = .slice (some ⟨X, 0, none⟩) g.vars.length g.vars.length ∧ LL (n + 1) s.H X 30 4 bc rows ys ∧ rows.length = g.vars.length ∧ (∀ r ∈ rows, r.length = g.vars.length) ∧ Warsh g (rowsB rows) k v 0 ∧
          s.f 7 = .int .i64 (k : Nat) ∧ s.f 8 = .int .i64 (v : Nat) ∧ v ≤ g.vars.length ∧ q = g.vars.length - v) g.vars.length ?_ ?_
      · exact ⟨0, rows, kp, f1, hb5, f3, L, hrl, hlen, hW, f7, rfl, Nat.zero_le _, rfl⟩
      clear f1 f3 f7 hb5 kp L hrl hW hlen
      rintro q2 ⟨f, n6, H6⟩ ⟨v, rows, kp, f1, hb6, f3, L, hrl, hlen, hW, f7, f8, hvv, rfl⟩ ih2
      simp only at f1 f3 f7 f8 ih2 hb6 kp L
      by_cases hjv : v < g.vars.length
      · have hvw : IntKind.i64.wrap ((v : Int) + 1) = ((v + 1 : Nat) : Int) := by rw [wrap_in (by omega) (by omega)]; rfl
        repeat (first | apply WK.seq | apply WK.block | apply WK.skipSeq | apply WK.skipBlock | apply WK.retSeq | apply WK.retBlock | apply WK.exitSeq | apply WK.exitHere | refine WK.exitOn rfl ?_ | ((first | (refine WK.rgn ?_ ?_; kernel_rfl) | refine AtCall.now ?_); simp (config := { maxSteps := 1000000 }) only [SS, forall_const, wx, tguard, acallee, top, tval, fput, tor, vsh, vbin, tload, tload2, tload3, tstore, tstore2, tstore3, Go.AM.splice, one, tidx, tidx2, tfa, tfa2, tlen2, tpick, tbox, tbs, tbs2, afill, tap, tap2, tap3, tap4, tsrc, tsrc2, Int.reduceEq, Int.reduceNeg, Nat.reduceGT, Nat.reduceLT, Nat.reduceLeDiff, Nat.reduceEqDiff, ↓reduceIte, reduceCtorEq, Int.reduceToNat, Int.reduceLE, Int.reduceLT, Nat.reduceAdd, Nat.reduceMul, f1, f7, f8, hb6, gc_1, hjv, ff_10]) | (refine WK.condT ?_ ?_; focus (simp only [ev_tmp, ev_const, fset_apply, Nat.reduceEqDiff, ↓reduceIte, decide_true, decide_false, f1, f7, f8, hb6, gc_1, hjv, ff_10]; done)) | (refine WK.condF ?_ ?_; focus (simp only [ev_tmp, ev_const, fset_apply, Nat.reduceEqDiff, ↓reduceIte, decide_true, decide_false, f1, f7, f8, hb6, gc_1, hjv, ff_10]; done)))
        refine WK.loop (fun q s => ∃ (u : Nat) (rows : List (List Bool)), Kp n H s.n s.H ∧ s.f 1 = .pointer (some ⟨n, 0, none⟩) ∧ s.H n = .cells (gcells pt pv pr g) 25 true ∧ s.f 3 = .slice (some ⟨X, 0, none⟩) g.vars.length g.vars.length ∧ LL (n + 1) s.H X 30 4 bc rows ys ∧ rows.length = g.vars.length ∧ (∀ r ∈ rows, r.length = g.vars.length) ∧ Warsh g (rowsB rows) k v u ∧
            s.f 7 = .int .i64 (k : Nat) ∧ s.f 8 = .int .i64 (v : Nat) ∧ s.f 9 = .int .i64 (u : Nat) ∧ u ≤ g.vars.length ∧ q = g.vars.length - u) g.vars.length ?_ ?_
        · exact ⟨0, rows, kp, f1, hb6, f3, L, hrl, hlen, hW, f7, f8, rfl, Nat.zero_le _, rfl⟩
        clear f1 f3 f7 f8 hb6 kp L hrl hW hlen
        rintro q3 ⟨f, n7, H7⟩ ⟨u, rows, kp, f1, hb7, f3, L, hrl, hlen, hW, f7, f8, f9, huv, rfl⟩ ih3
        simp only at f1 f3 f7 f8 f9 ih3 hb7 kp L
        by_cases hju : u < g.vars.length
        · have huw : IntKind.i64.wrap ((u : Int) + 1) = ((u + 1 : Nat) : Int) := by rw [wrap_in (by omega) (by omega)]; rfl
          have hvl : v < rows.length := by omega
          have hkl : k < rows.length := by omega
          have lv := hlen _ (List.getElem_mem hvl)
          have lk := hlen _ (List.getElem_mem hkl)
          have nv : rows[v] ≠ [] := by intro e; rw [e] at lv; simp at lv; omega
          have nk : rows[k] ≠ [] := by intro e; rw [e] at lk; simp at lk; omega
          have rv := L.at hvl
          rw [sl_pos (by rw [lv]; omega), lv] at rv
          have rk := L.at hkl
          rw [sl_pos (by rw [lk]; omega), lk] at rk
          have ov := L.hy v hvl nv
          rw [flat_bc] at ov
          have ok' := L.hy k hkl nk
          rw [flat_bc] at ok'
          have cell : ∀ x (hx : x < rows.length) y, y < g.vars.length → (rows[x].map Value.bool)[y]? = some (.bool (rowsB rows x y)) := fun x hx y hy => by
            have hy' : y < rows[x].length := by rw [hlen _ (List.getElem_mem hx)]; exact hy
            rw [List.getElem?_map, rowsB_at hx hy', List.getElem?_eq_getElem hy']
            rfl
          have cvu := cell v hvl u hju
          have cvk := cell v hvl k hjk
          have cku := cell k hkl u hju
          have hulv : u < rows[v].length := by omega
          have hu1 : u + 1 ≤ g.vars.length := hju
          have hsetb : ∀ b, (rows[v].map Value.bool).set u (.bool b) = (rows[v].set u b).map .bool := fun b => by rw [List.map_set]
          have fin : ∀ (b : Bool) (f' : Fr) (H' : Heap), b = (rowsB rows v u || rowsB rows v k && rowsB rows k u) → H' = hset H7 (ys v) (.cells ((rows[v].set u b).map .bool) 4 true) → f' 1 = f 1 → f' 3 = f 3 → f' 7 = f 7 → f' 8 = f 8 → f' 9 = .int .i64 (u + 1 : Nat) →
              ∃ (u' : Nat) (rows : List (List Bool)), Kp n H n7 H' ∧ f' 1 = .pointer (some ⟨n, 0, none⟩) ∧ H' n = .cells (gcells pt pv pr g) 25 true ∧ f' 3 = .slice (some ⟨X, 0, none⟩) g.vars.length g.vars.length ∧ LL (n + 1) H' X 30 4 bc rows ys ∧ rows.length = g.vars.length ∧ (∀ r ∈ rows, r.length = g.vars.length) ∧ Warsh g (rowsB rows) k v u' ∧
                f' 7 = .int .i64 (k : Nat) ∧ f' 8 = .int .i64 (v : Nat) ∧ f' 9 = .int .i64 (u' : Nat) ∧ u' ≤ g.vars.length ∧ g.vars.length - (u + 1) = g.vars.length - u' := by
            intro b f' H' hb eH e1 e3 e7 e8 e9
            have hw7 := kp.wf hw
            have hy1 := L.lty hw7 hvl nv
            have hy2 := L.fy v hvl nv
            have hy3 := L.ne v hvl nv
            subst eH
            refine ⟨u + 1, rows.set v (rows[v].set u b), kp.set _ (by omega) hy1, e1.trans f1, (hset_ne _ _ _ (by omega)).trans hb7, e3.trans f3, ?_, by rw [List.length_set]; exact hrl, fun r hr => ?_, hW.step hjv hju hjk (fun x y => by rw [rowsB_set hvl hulv, hb]), e7.trans f7, e8.trans f8, e9, hju, rfl⟩
            · have L1 := L.put (H' := hset H7 (ys v) (.cells ((rows[v].set u b).map .bool) 4 true)) (v := v) (y := ys v) (l := rows[v].set u b) (fun _ => by rw [flat_bc]; exact hset_at _ _ _) (fun _ => hy2) hy3 (by
                  have e : (llcells ys rows).set v (sl (ys v) (rows[v].set u b).length) = llcells ys rows := by
                    refine set_self ?_
                    rw [L.at hvl, List.length_set]
                  rw [e]
                  exact (hset_ne _ _ _ (Ne.symm hy3)).trans L.hx) (fun w hw' hn hn' e => hn (L.inj w v hw' hvl hn' nv e)) (fun w hw' hn hn' => hset_ne _ _ _ (fun e => hn (L.inj w v hw' hvl hn' nv e)))
              have eu : upd ys v (ys v) = ys := by
                funext w
                unfold upd
                split
                · rename_i e; rw [e]
                · rfl
              rwa [eu] at L1
            · rcases List.mem_or_eq_of_mem_set hr with h | h
              · exact hlen r h
              · rw [h, List.length_set]; exact lv
          cases m1 : rowsB rows v u
          · rw [m1] at cvu
            cases m2 : rowsB rows v k
            · rw [m2] at cvk
              repeat (first | apply WK.seq | apply WK.block | apply WK.skipSeq | apply WK.skipBlock | apply WK.retSeq | apply WK.retBlock | apply WK.exitSeq | apply WK.exitHere | refine WK.exitOn rfl ?_ | ((first | (refine WK.rgn ?_ ?_; kernel_rfl) | refine AtCall.now ?_); simp (config := { maxSteps := 1000000 }) only [SS, forall_const, wx, tguard, acallee, top, tval, fput, tor, vsh, vbin, tload, tload2, tload3, tstore, tstore2, tstore3, Go.AM.splice, one, tidx, tidx2, tfa, tfa2, tlen2, tpick, tbox, tbs, tbs2, afill, tap, tap2, tap3, tap4, tsrc, tsrc2, Int.reduceEq, Int.reduceNeg, Nat.reduceGT, Nat.reduceLT, Nat.reduceLeDiff, Nat.reduceEqDiff, ↓reduceIte, reduceCtorEq, Int.reduceToNat, Int.reduceLE, Int.reduceLT, Nat.reduceAdd, Nat.reduceMul, f1, f3, f7, f8, f9, hb7, gc_1, hju, hjv, hjk, L.hx, rv, ov, cvu, cvk, hu1, hsetb, List.length_map, lv, ff_10]) | (refine WK.condT ?_ ?_; focus (simp only [ev_tmp, ev_const, fset_apply, Nat.reduceEqDiff, ↓reduceIte, decide_true, decide_false, f1, f3, f7, f8, f9, hb7, gc_1, hju, hjv, hjk, L.hx, rv, ov, cvu, cvk, hu1, hsetb, List.length_map, lv, ff_10]; done)) | (refine WK.condF ?_ ?_; focus (simp only [ev_tmp, ev_const, fset_apply, Nat.reduceEqDiff, ↓reduceIte, decide_true, decide_false, f1, f3, f7, f8, f9, hb7, gc_1, hju, hjv, hjk, L.hx, rv, ov, cvu, cvk, hu1, hsetb, List.length_map, lv, ff_10]; done)))
              refine ih3 (g.vars.length - (u + 1)) (by omega) _ (fin false _ _ (by rw [m1, m2]; rfl) rfl rfl rfl rfl rfl ?_)
              simp only [packed, fset_apply, Nat.reduceEqDiff, ↓reduceIte, List.getD_cons_zero, List.getD_cons_succ, huw, ff_10]
            · rw [m2] at cvk
              cases m3 : rowsB rows k u
              · rw [m3] at cku
                repeat (first | apply WK.seq | apply WK.block | apply WK.skipSeq | apply WK.skipBlock | apply WK.retSeq | apply WK.retBlock | apply WK.exitSeq | apply WK.exitHere | refine WK.exitOn rfl ?_ | ((first | (refine WK.rgn ?_ ?_; kernel_rfl) | refine AtCall.now ?_); simp (config := { maxSteps := 1000000 }) only [SS, forall_const, wx, tguard, acallee, top, tval, fput, tor, vsh, vbin, tload, tload2, tload3, tstore, tstore2, tstore3, Go.AM.splice, one, tidx, tidx2, tfa, tfa2, tlen2, tpick, tbox, tbs, tbs2, afill, tap, tap2, tap3, tap4, tsrc, tsrc2, Int.reduceEq, Int.reduceNeg, Nat.reduceGT, Nat.reduceLT, Nat.reduceLeDiff, Nat.reduceEqDiff, ↓reduceIte, reduceCtorEq, Int.reduceToNat, Int.reduceLE, Int.reduceLT, Nat.reduceAdd, Nat.reduceMul, f1, f3, f7, f8, f9, hb7, gc_1, hju, hjv, hjk, L.hx, rv, ov, rk, ok', cvu, cvk, cku, hu1, hsetb, List.length_map, lv, ff_10]) | (refine WK.condT ?_ ?_; focus (simp only [ev_tmp, ev_const, fset_apply, Nat.reduceEqDiff, ↓reduceIte, decide_true, decide_false, f1, f3, f7, f8, f9, hb7, gc_1, hju, hjv, hjk, L.hx, rv, ov, rk, ok', cvu, cvk, cku, hu1, hsetb, List.length_map, lv, ff_10]; done)) | (refine WK.condF ?_ ?_; focus (simp only [ev_tmp, ev_const, fset_apply, Nat.reduceEqDiff, ↓reduceIte, decide_true, decide_false, f1, f3, f7, f8, f9, hb7, gc_1, hju, hjv, hjk, L.hx, rv, ov, rk, ok', cvu, cvk, cku, hu1, hsetb, List.length_map, lv, ff_10]; done)))
                refine ih3 (g.vars.length - (u + 1)) (by omega) _ (fin false _ _ (by rw [m1, m2, m3]; rfl) rfl rfl rfl rfl rfl ?_)
                simp only [packed, fset_apply, Nat.reduceEqDiff, ↓reduceIte, List.getD_cons_zero, List.getD_cons_succ, huw, ff_10]
              · rw [m3] at cku
                repeat (first | apply WK.seq | apply WK.block | apply WK.skipSeq | apply WK.skipBlock | apply WK.retSeq | apply WK.retBlock | apply WK.exitSeq | apply WK.exitHere | refine WK.exitOn rfl ?_ | ((first | (refine WK.rgn ?_ ?_; kernel_rfl) | refine AtCall.now ?_); simp (config := { maxSteps := 1000000 }) only [SS, forall_const, wx, tguard, acallee, top, tval, fput, tor, vsh, vbin, tload, tload2, tload3, tstore, tstore2, tstore3, Go.AM.splice, one, tidx, tidx2, tfa, tfa2, tlen2, tpick, tbox, tbs, tbs2, afill, tap, tap2, tap3, tap4, tsrc, tsrc2, Int.reduceEq, Int.reduceNeg, Nat.reduceGT, Nat.reduceLT, Nat.reduceLeDiff, Nat.reduceEqDiff, ↓reduceIte, reduceCtorEq, Int.reduceToNat, Int.reduceLE, Int.reduceLT, Nat.reduceAdd, Nat.reduceMul, f1, f3, f7, f8, f9, hb7, gc_1, hju, hjv, hjk, L.hx, rv, ov, rk, ok', cvu, cvk, cku, hu1, hsetb, List.length_map, lv, ff_10]) | (refine WK.condT ?_ ?_; focus (simp only [ev_tmp, ev_const, fset_apply, Nat.reduceEqDiff, ↓reduceIte, decide_true, decide_false, f1, f3, f7, f8, f9, hb7, gc_1, hju, hjv, hjk, L.hx, rv, ov, rk, ok', cvu, cvk, cku, hu1, hsetb, List.length_map, lv, ff_10]; done)) | (refine WK.condF ?_ ?_; focus (simp only [ev_tmp, ev_const, fset_apply, Nat.reduceEqDiff, ↓reduceIte, decide_true, decide_false, f1, f3, f7, f8, f9, hb7, gc_1, hju, hjv, hjk, L.hx, rv, ov, rk, ok', cvu, cvk, cku, hu1, hsetb, List.length_map, lv, ff_10]; done)))
                refine ih3 (g.vars.length - (u + 1)) (by omega) _ (fin true _ _ (by rw [m1, m2, m3]; rfl) rfl rfl rfl rfl rfl ?_)
                simp only [packed, fset_apply, Nat.reduceEqDiff, ↓reduceIte, List.getD_cons_zero, List.getD_cons_succ, huw, ff_10]
          · rw [m1] at cvu
            repeat (first | apply WK.seq | apply WK.block | apply WK.skipSeq | apply WK.skipBlock | apply WK.retSeq | apply WK.retBlock | apply WK.exitSeq | apply WK.exitHere | refine WK.exitOn rfl ?_ | ((first | (refine WK.rgn ?_ ?_; kernel_rfl) | refine AtCall.now ?_); simp (config := { maxSteps := 1000000 }) only [SS, forall_const, wx, tguard, acallee, top, tval, fput, tor, vsh, vbin, tload, tload2, tload3, tstore, tstore2, tstore3, Go.AM.splice, one, tidx, tidx2, tfa, tfa2, tlen2, tpick, tbox, tbs, tbs2, afill, tap, tap2, tap3, tap4, tsrc, tsrc2, Int.reduceEq, Int.reduceNeg, Nat.reduceGT, Nat.reduceLT, Nat.reduceLeDiff, Nat.reduceEqDiff, ↓reduceIte, reduceCtorEq, Int.reduceToNat, Int.reduceLE, Int.reduceLT, Nat.reduceAdd, Nat.reduceMul, f1, f3, f7, f8, f9, hb7, gc_1, hju, hjv, hjk, L.hx, rv, ov, cvu, hu1, hsetb, List.length_map, lv, ff_10]) | (refine WK.condT ?_ ?_; focus (simp only [ev_tmp, ev_const, fset_apply, Nat.reduceEqDiff, ↓reduceIte, decide_true, decide_false, f1, f3, f7, f8, f9, hb7, gc_1, hju, hjv, hjk, L.hx, rv, ov, cvu, hu1, hsetb, List.length_map, lv, ff_10]; done)) | (refine WK.condF ?_ ?_; focus (simp only [ev_tmp, ev_const, fset_apply, Nat.reduceEqDiff, ↓reduceIte, decide_true, decide_false, f1, f3, f7, f8, f9, hb7, gc_1, hju, hjv, hjk, L.hx, rv, ov, cvu, hu1, hsetb, List.length_map, lv, ff_10]; done)))
            refine ih3 (g.vars.length - (u + 1)) (by omega) _ (fin true _ _ (by rw [m1]; rfl) rfl rfl rfl rfl rfl ?_)
            simp only [packed, fset_apply, Nat.reduceEqDiff, ↓reduceIte, List.getD_cons_zero, List.getD_cons_succ, huw, ff_10]
        · have hue : u = g.vars.length := by omega
          subst hue
          repeat (first | apply WK.seq | apply WK.block | apply WK.skipSeq | apply WK.skipBlock | apply WK.retSeq | apply WK.retBlock | apply WK.exitSeq | apply WK.exitHere | refine WK.exitOn rfl ?_ | ((first | (refine WK.rgn ?_ ?_; kernel_rfl) | refine AtCall.now ?_); simp (config := { maxSteps := 1000000 }) only [SS, forall_const, wx, tguard, acallee, top, tval, fput, tor, vsh, vbin, tload, tload2, tload3, tstore, tstore2, tstore3, Go.AM.splice, one, tidx, tidx2, tfa, tfa2, tlen2, tpick, tbox, tbs, tbs2, afill, tap, tap2, tap3, tap4, tsrc, tsrc2, Int.reduceEq, Int.reduceNeg, Nat.reduceGT, Nat.reduceLT, Nat.reduceLeDiff, Nat.reduceEqDiff, ↓reduceIte, reduceCtorEq, Int.reduceToNat, Int.reduceLE, Int.reduceLT, Nat.reduceAdd, Nat.reduceMul, f1, f8, f9, hb7, gc_1, hju, ff_10]) | (refine WK.condT ?_ ?_; focus (simp only [ev_tmp, ev_const, fset_apply, Nat.reduceEqDiff, ↓reduceIte, decide_true, decide_false, f1, f8, f9, hb7, gc_1, hju, ff_10]; done)) | (refine WK.condF ?_ ?_; focus (simp only [ev_tmp, ev_const, fset_apply, Nat.reduceEqDiff, ↓reduceIte, decide_true, decide_false, f1, f8, f9, hb7, gc_1, hju, ff_10]; done)))
          refine ih2 (g.vars.length - (v + 1)) (by omega) _ ⟨v + 1, rows, kp, f1, hb7, f3, L, hrl, hlen, hW.row, f7, ?_, hjv, rfl⟩
          simp only [packed, fset_apply, Nat.reduceEqDiff, ↓reduceIte, List.getD_cons_zero, List.getD_cons_succ, hvw, ff_10]
      · have hve : v = g.vars.length := by omega
        subst hve
        repeat (first | apply WK.seq | apply WK.block | apply WK.skipSeq | apply WK.skipBlock | apply WK.retSeq | apply WK.retBlock | apply WK.exitSeq | apply WK.exitHere | refine WK.exitOn rfl ?_ | ((first | (refine WK.rgn ?_ ?_; kernel_rfl) | refine AtCall.now ?_); simp (config := { maxSteps := 1000000 }) only [SS, forall_const, wx, tguard, acallee, top, tval, fput, tor, vsh, vbin, tload, tload2, tload3, tstore, tstore2, tstore3, Go.AM.splice, one, tidx, tidx2, tfa, tfa2, tlen2, tpick, tbox, tbs, tbs2, afill, tap, tap2, tap3, tap4, tsrc, tsrc2, Int.reduceEq, Int.reduceNeg, Nat.reduceGT, Nat.reduceLT, Nat.reduceLeDiff, Nat.reduceEqDiff, ↓reduceIte, reduceCtorEq, Int.reduceToNat, Int.reduceLE, Int.reduceLT, Nat.reduceAdd, Nat.reduceMul, f1, f7, f8, hb6, gc_1, hjv, ff_10]) | (refine WK.condT ?_ ?_; focus (simp only [ev_tmp, ev_const, fset_apply, Nat.reduceEqDiff, ↓reduceIte, decide_true, decide_false, f1, f7, f8, hb6, gc_1, hjv, ff_10]; done)) | (refine WK.condF ?_ ?_; focus (simp only [ev_tmp, ev_const, fset_apply, Nat.reduceEqDiff, ↓reduceIte, decide_true, decide_false, f1, f7, f8, hb6, gc_1, hjv, ff_10]; done)))
        refine ih (g.vars.length - (k + 1)) (by omega) _ ⟨k + 1, rows, kp, f1, hb6, f3, L, hrl, hlen, hW.round, ?_, hjk, rfl⟩
        simp only [packed, fset_apply, Nat.reduceEqDiff, ↓reduceIte, List.getD_cons_zero, List.getD_cons_succ, hkw, ff_10]
    · have hke : k = g.vars.length := by omega
      subst hke
      repeat (first | apply WK.seq | apply WK.block | apply WK.skipSeq | apply WK.skipBlock | apply WK.retSeq | apply WK.retBlock | apply WK.exitSeq | apply WK.exitHere | refine WK.exitOn rfl ?_ | ((first | (refine WK.rgn ?_ ?_; kernel_rfl) | refine AtCall.now ?_); simp (config := { maxSteps := 1000000 }) only [SS, forall_const, wx, tguard, acallee, top, tval, fput, tor, vsh, vbin, tload, tload2, tload3, tstore, tstore2, tstore3, Go.AM.splice, one, tidx, tidx2, tfa, tfa2, tlen2, tpick, tbox, tbs, tbs2, afill, tap, tap2, tap3, tap4, tsrc, tsrc2, Int.reduceEq, Int.reduceNeg, Nat.reduceGT, Nat.reduceLT, Nat.reduceLeDiff, Nat.reduceEqDiff, ↓reduceIte, reduceCtorEq, Int.reduceToNat, Int.reduceLE, Int.reduceLT, Nat.reduceAdd, Nat.reduceMul, f1, f3, f7, hb5, gc_1, hjk, ff_10]) | (refine WK.condT ?_ ?_; focus (simp only [ev_tmp, ev_const, fset_apply, Nat.reduceEqDiff, ↓reduceIte, decide_true, decide_false, f1, f3, f7, hb5, gc_1, hjk, ff_10]; done)) | (refine WK.condF ?_ ?_; focus (simp only [ev_tmp, ev_const, fset_apply, Nat.reduceEqDiff, ↓reduceIte, decide_true, decide_false, f1, f3, f7, hb5, gc_1, hjk, ff_10]; done)))
      (first | refine WK.retNil ⟨Or.inr rfl, _, rfl, ?_, ?_⟩ | refine WK.skipNil ⟨Or.inl rfl, _, rfl, ?_, ?_⟩)
      · exact kp.keep
      · simp only [packed, fset_apply, Nat.reduceEqDiff, ↓reduceIte, List.getD_cons_zero, List.getD_cons_succ, ff_10]
        exact ⟨rows, ys, X, by omega, rfl, ⟨L.hx, L.hy, L.inj, fun v h hn => by have := L.fy v h hn; omega, L.ne⟩, hrl, hlen, hW.done hi⟩
end Go.Proofs.Ytplnndgdklfnfaa
