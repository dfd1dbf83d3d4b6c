/- A part of a proof. Its conditions: none. -/
import Derived.Test.YtgnmaekfiifepaaDoorAmMFacts
import Derived.Test.YtgnmaekfiifepaaDoorAmC
import Derived.Test.YtgnmaekfiifepaaDoorAmD
set_option linter.all false
namespace Go.Proofs.YtgnmaekfiifepaaDoor
open Go.AM
set_option maxRecDepth 100000
theorem wrap_up {i m : Nat} (h : i < m) (hm : m ≤ maxL) : IntKind.wrap .i64 ((i : Int) + 1) = ((i + 1 : Nat) : Int) := by
  unfold maxL at hm
  rw [wrap_in (by omega) (by omega)]; rfl
set_option maxHeartbeats 2000000 in
theorem right_gives {v : Value} {N : List (List Int)} {R : List Int} {n : Nat} {H : Heap} (hw : WF n H) (hd : RD H v N R) (ws : WA N R) :
    Gives Tryd.prog 8 [v] n H fun v _ _ => v = .bool (Mini.rightB N R) := by
  obtain ⟨a, b, rfl, hN, hR⟩ := hd
  refine Gives.of orders ok8 (Nat.le_of_ble_eq_true rfl) ?_
  have hk := Kp.new n H (.cells (acells a b N R) 25 true)
  replace hN := hN.mono hw hk
  replace hR := hR.mono hw hk
  have hb := hset_at H n (.cells (acells a b N R) 25 true)
  repeat (first | apply WK.seq | apply WK.block | apply WK.skipSeq | apply WK.skipBlock | apply WK.retSeq | apply WK.retBlock | apply WK.exitSeq | apply WK.exitHere | refine WK.exitOn rfl ?_)
  (refine WK.rgn ?_ ?_; kernel_rfl; simp (config := { maxSteps := 1000000 }) only [SS, forall_const, wx, tguard, acallee, top, tval, fput, tor, vsh, vbin, tload, tload2, tload3, tidx, tidx2, tidx3, tfa, tfa2, tlen2, tlen3, tpick, tbox, one, Int.reduceEq, Int.reduceNeg, Nat.reduceGT, Nat.reduceLT, Nat.reduceLeDiff, Nat.reduceEqDiff, ↓reduceIte, reduceCtorEq, Int.reduceToNat, Int.reduceLE, Int.reduceLT, Nat.reduceAdd, Nat.reduceMul, abox, abox_cells, abox_one, ff_8])
  repeat (first | apply WK.seq | apply WK.block | apply WK.skipSeq | apply WK.skipBlock | apply WK.retSeq | apply WK.retBlock | apply WK.exitSeq | apply WK.exitHere | refine WK.exitOn rfl ?_)
  generalize hset H n (.cells (acells a b N R) 25 true) = H1 at *
  have wn := ws.n
  have wr := ws.r
  by_cases h1 : N.length = 0
  · have h1' : ((N.length : Int) = 0) = True := by simp only [eq_iff_iff, iff_true]; omega
    repeat (first | apply WK.seq | apply WK.block | apply WK.skipSeq | apply WK.skipBlock | apply WK.retSeq | apply WK.retBlock | apply WK.exitSeq | apply WK.exitHere | refine WK.exitOn rfl ?_ | ((first | (refine WK.rgn ?_ ?_; kernel_rfl) | refine AtCall.now ?_); simp (config := { maxSteps := 1000000 }) only [SS, forall_const, wx, tguard, acallee, top, tval, fput, tor, vsh, vbin, tload, tload2, tload3, tidx, tidx2, tidx3, tfa, tfa2, tlen2, tlen3, tpick, tbox, one, Int.reduceEq, Int.reduceNeg, Nat.reduceGT, Nat.reduceLT, Nat.reduceLeDiff, Nat.reduceEqDiff, ↓reduceIte, reduceCtorEq, Int.reduceToNat, Int.reduceLE, Int.reduceLT, Nat.reduceAdd, Nat.reduceMul, hb, h1', ac_0, ac_1, ff_8]) | (refine WK.condT ?_ ?_; focus (simp only [ev_tmp, ev_const, fset_apply, Nat.reduceEqDiff, ↓reduceIte, decide_true, decide_false, hb, h1', ac_0, ac_1, ff_8]; done)) | (refine WK.condF ?_ ?_; focus (simp only [ev_tmp, ev_const, fset_apply, Nat.reduceEqDiff, ↓reduceIte, decide_true, decide_false, hb, h1', ac_0, ac_1, ff_8]; done)))
    (first | refine WK.retNil ⟨Or.inr rfl, _, rfl, ?_, ?_⟩ | refine WK.skipNil ⟨Or.inl rfl, _, rfl, ?_, ?_⟩)
    · exact hk.keep
    · simp only [packed, fset_apply, Nat.reduceEqDiff, ↓reduceIte, List.getD_cons_zero, List.getD_cons_succ, ff_8]
      simp [Mini.rightB, h1]
  have h1' : ((N.length : Int) = 0) = False := by simp only [eq_iff_iff, iff_false]; omega
  by_cases h2 : N.length = R.length
  case neg =>
    have h2' : ((N.length : Int) = (R.length : Int)) = False := by simp only [eq_iff_iff, iff_false]; omega
    repeat (first | apply WK.seq | apply WK.block | apply WK.skipSeq | apply WK.skipBlock | apply WK.retSeq | apply WK.retBlock | apply WK.exitSeq | apply WK.exitHere | refine WK.exitOn rfl ?_ | ((first | (refine WK.rgn ?_ ?_; kernel_rfl) | refine AtCall.now ?_); simp (config := { maxSteps := 1000000 }) only [SS, forall_const, wx, tguard, acallee, top, tval, fput, tor, vsh, vbin, tload, tload2, tload3, tidx, tidx2, tidx3, tfa, tfa2, tlen2, tlen3, tpick, tbox, one, Int.reduceEq, Int.reduceNeg, Nat.reduceGT, Nat.reduceLT, Nat.reduceLeDiff, Nat.reduceEqDiff, ↓reduceIte, reduceCtorEq, Int.reduceToNat, Int.reduceLE, Int.reduceLT, Nat.reduceAdd, Nat.reduceMul, hb, h1', h2', ac_0, ac_1, ff_8]) | (refine WK.condT ?_ ?_; focus (simp only [ev_tmp, ev_const, fset_apply, Nat.reduceEqDiff, ↓reduceIte, decide_true, decide_false, hb, h1', h2', ac_0, ac_1, ff_8]; done)) | (refine WK.condF ?_ ?_; focus (simp only [ev_tmp, ev_const, fset_apply, Nat.reduceEqDiff, ↓reduceIte, decide_true, decide_false, hb, h1', h2', ac_0, ac_1, ff_8]; done)))
    (first | refine WK.retNil ⟨Or.inr rfl, _, rfl, ?_, ?_⟩ | refine WK.skipNil ⟨Or.inl rfl, _, rfl, ?_, ?_⟩)
    · exact hk.keep
    · simp only [packed, fset_apply, Nat.reduceEqDiff, ↓reduceIte, List.getD_cons_zero, List.getD_cons_succ, ff_8]
      simp [Mini.rightB, h2]
  have h2' : ((N.length : Int) = (R.length : Int)) = True := by simp only [eq_iff_iff, iff_true]; omega
  obtain ⟨x, k, cs, ty, own, rfl, hx, hr⟩ := hN.base (by intro e; rw [e] at h1; exact h1 rfl)
  have h0l : 0 < N.length := by omega
  have h0i : ((0 : Int) < (N.length : Int)) = True := by simp only [eq_iff_iff, iff_true]; omega
  obtain ⟨p0, c0, hp0⟩ := hr 0 h0l
  rw [Nat.add_zero] at c0
  have hg0 : N.getD 0 [] = N[0] := Mini.getD_at [] h0l
  by_cases h3 : N[0].length = 0
  · have h3' : ((N[0].length : Int) = 0) = True := by simp only [eq_iff_iff, iff_true]; omega
    repeat (first | apply WK.seq | apply WK.block | apply WK.skipSeq | apply WK.skipBlock | apply WK.retSeq | apply WK.retBlock | apply WK.exitSeq | apply WK.exitHere | refine WK.exitOn rfl ?_ | ((first | (refine WK.rgn ?_ ?_; kernel_rfl) | refine AtCall.now ?_); simp (config := { maxSteps := 1000000 }) only [SS, forall_const, wx, tguard, acallee, top, tval, fput, tor, vsh, vbin, tload, tload2, tload3, tidx, tidx2, tidx3, tfa, tfa2, tlen2, tlen3, tpick, tbox, one, Int.reduceEq, Int.reduceNeg, Nat.reduceGT, Nat.reduceLT, Nat.reduceLeDiff, Nat.reduceEqDiff, ↓reduceIte, reduceCtorEq, Int.reduceToNat, Int.reduceLE, Int.reduceLT, Nat.reduceAdd, Nat.reduceMul, hb, h1', h2', h3', h0i, hx, c0, ac_0, ac_1, ff_8]) | (refine WK.condT ?_ ?_; focus (simp only [ev_tmp, ev_const, fset_apply, Nat.reduceEqDiff, ↓reduceIte, decide_true, decide_false, hb, h1', h2', h3', h0i, hx, c0, ac_0, ac_1, ff_8]; done)) | (refine WK.condF ?_ ?_; focus (simp only [ev_tmp, ev_const, fset_apply, Nat.reduceEqDiff, ↓reduceIte, decide_true, decide_false, hb, h1', h2', h3', h0i, hx, c0, ac_0, ac_1, ff_8]; done)))
    (first | refine WK.retNil ⟨Or.inr rfl, _, rfl, ?_, ?_⟩ | refine WK.skipNil ⟨Or.inl rfl, _, rfl, ?_, ?_⟩)
    · exact hk.keep
    · simp only [packed, fset_apply, Nat.reduceEqDiff, ↓reduceIte, List.getD_cons_zero, List.getD_cons_succ, ff_8]
      unfold Mini.rightB
      rw [hg0]
      simp [h3]
  have h3' : ((N[0].length : Int) = 0) = False := by simp only [eq_iff_iff, iff_false]; omega
  repeat (first | apply WK.seq | apply WK.block | apply WK.skipSeq | apply WK.skipBlock | apply WK.retSeq | apply WK.retBlock | apply WK.exitSeq | apply WK.exitHere | refine WK.exitOn rfl ?_ | ((first | (refine WK.rgn ?_ ?_; kernel_rfl) | refine AtCall.now ?_); simp (config := { maxSteps := 1000000 }) only [SS, forall_const, wx, tguard, acallee, top, tval, fput, tor, vsh, vbin, tload, tload2, tload3, tidx, tidx2, tidx3, tfa, tfa2, tlen2, tlen3, tpick, tbox, one, Int.reduceEq, Int.reduceNeg, Nat.reduceGT, Nat.reduceLT, Nat.reduceLeDiff, Nat.reduceEqDiff, ↓reduceIte, reduceCtorEq, Int.reduceToNat, Int.reduceLE, Int.reduceLT, Nat.reduceAdd, Nat.reduceMul, hb, h1', h2', h3', h0i, hx, c0, ac_0, ac_1, ff_8]) | (refine WK.condT ?_ ?_; focus (simp only [ev_tmp, ev_const, fset_apply, Nat.reduceEqDiff, ↓reduceIte, decide_true, decide_false, hb, h1', h2', h3', h0i, hx, c0, ac_0, ac_1, ff_8]; done)) | (refine WK.condF ?_ ?_; focus (simp only [ev_tmp, ev_const, fset_apply, Nat.reduceEqDiff, ↓reduceIte, decide_true, decide_false, hb, h1', h2', h3', h0i, hx, c0, ac_0, ac_1, ff_8]; done)))
  refine WK.loop (fun kk s => ∃ i : Nat, i ≤ N.length ∧ s.n = n + 1 ∧ s.H = H1 ∧ s.f 1 = .pointer (some ⟨n, 0, none⟩) ∧ s.f 29 = .slice (some ⟨x, k, none⟩) N.length N.length ∧ s.f 30 = .int .i64 (N.length : Int) ∧ s.f 31 = .int .i64 (i : Int) ∧
    kk = N.length - i ∧ ∀ s, s < i → Mini.okR N.length (N.getD 0 []).length (Mini.at1 R s) (N.getD s []) = true) N.length ?_ ?_
  · exact ⟨0, Nat.zero_le _, rfl, rfl, rfl, rfl, rfl, rfl, rfl, fun s hs => absurd hs (Nat.not_lt_zero _)⟩
  rintro kk ⟨f, n', H'⟩ ⟨i, hi, rfl, rfl, f1, f29, f30, f31, rfl, hall⟩ ih
  simp only at f1 f29 f30 f31 ih hx hb hR hr
  by_cases hil : i < N.length
  · have hil' : ((i : Int) < (N.length : Int)) = True := by simp only [eq_iff_iff, iff_true]; omega
    have h0n : (0 : Int) ≤ (i : Int) := Int.natCast_nonneg i
    obtain ⟨p, ci, hp⟩ := hr i hil
    have hgi : N.getD i [] = N[i] := Mini.getD_at [] hil
    have hil2 : i < R.length := by omega
    obtain ⟨y, l, ds, ty2, own2, rfl, hy, ei⟩ := hR.at hil2
    have hri : Mini.at1 R i = R[i] := Mini.at1_at hil2
    have hilr : ((i : Int) < (R.length : Int)) = True := by simp only [eq_iff_iff, iff_true]; omega
    by_cases g1 : N[i].length = N[0].length
    case neg =>
      have g1' : ((N[i].length : Int) = (N[0].length : Int)) = False := by simp only [eq_iff_iff, iff_false]; omega
      repeat (first | apply WK.seq | apply WK.block | apply WK.skipSeq | apply WK.skipBlock | apply WK.retSeq | apply WK.retBlock | apply WK.exitSeq | apply WK.exitHere | refine WK.exitOn rfl ?_ | ((first | (refine WK.rgn ?_ ?_; kernel_rfl) | refine AtCall.now ?_); simp (config := { maxSteps := 1000000 }) only [SS, forall_const, wx, tguard, acallee, top, tval, fput, tor, vsh, vbin, tload, tload2, tload3, tidx, tidx2, tidx3, tfa, tfa2, tlen2, tlen3, tpick, tbox, one, Int.reduceEq, Int.reduceNeg, Nat.reduceGT, Nat.reduceLT, Nat.reduceLeDiff, Nat.reduceEqDiff, ↓reduceIte, reduceCtorEq, Int.reduceToNat, Int.reduceLE, Int.reduceLT, Nat.reduceAdd, Nat.reduceMul, f1, f29, f30, f31, hil', hil, h0n, hx, ci, hb, c0, h0i, g1', ac_0, ac_1, Int.toNat_natCast, ff_8]) | (refine WK.condT ?_ ?_; focus (simp only [ev_tmp, ev_const, fset_apply, Nat.reduceEqDiff, ↓reduceIte, decide_true, decide_false, f1, f29, f30, f31, hil', hil, h0n, hx, ci, hb, c0, h0i, g1', ac_0, ac_1, Int.toNat_natCast, ff_8]; done)) | (refine WK.condF ?_ ?_; focus (simp only [ev_tmp, ev_const, fset_apply, Nat.reduceEqDiff, ↓reduceIte, decide_true, decide_false, f1, f29, f30, f31, hil', hil, h0n, hx, ci, hb, c0, h0i, g1', ac_0, ac_1, Int.toNat_natCast, ff_8]; done)))
      (first | refine WK.retNil ⟨Or.inr rfl, _, rfl, ?_, ?_⟩ | refine WK.skipNil ⟨Or.inl rfl, _, rfl, ?_, ?_⟩)
      · exact hk.keep
      · simp only [packed, fset_apply, Nat.reduceEqDiff, ↓reduceIte, List.getD_cons_zero, List.getD_cons_succ, ff_8]
        rw [Mini.right_no hil]
        rw [hgi, hg0]
        simp [Mini.okR, g1]
    have g1' : ((N[i].length : Int) = (N[0].length : Int)) = True := by simp only [eq_iff_iff, iff_true]; omega
    by_cases g2 : R[i] < -1
    · repeat (first | apply WK.seq | apply WK.block | apply WK.skipSeq | apply WK.skipBlock | apply WK.retSeq | apply WK.retBlock | apply WK.exitSeq | apply WK.exitHere | refine WK.exitOn rfl ?_ | ((first | (refine WK.rgn ?_ ?_; kernel_rfl) | refine AtCall.now ?_); simp (config := { maxSteps := 1000000 }) only [SS, forall_const, wx, tguard, acallee, top, tval, fput, tor, vsh, vbin, tload, tload2, tload3, tidx, tidx2, tidx3, tfa, tfa2, tlen2, tlen3, tpick, tbox, one, Int.reduceEq, Int.reduceNeg, Nat.reduceGT, Nat.reduceLT, Nat.reduceLeDiff, Nat.reduceEqDiff, ↓reduceIte, reduceCtorEq, Int.reduceToNat, Int.reduceLE, Int.reduceLT, Nat.reduceAdd, Nat.reduceMul, f1, f29, f30, f31, hil', hil, h0n, hx, ci, hb, c0, h0i, g1', g2, ac_0, ac_1, hilr, hil2, hy, ei, Int.toNat_natCast, ff_8]) | (refine WK.condT ?_ ?_; focus (simp only [ev_tmp, ev_const, fset_apply, Nat.reduceEqDiff, ↓reduceIte, decide_true, decide_false, f1, f29, f30, f31, hil', hil, h0n, hx, ci, hb, c0, h0i, g1', g2, ac_0, ac_1, hilr, hil2, hy, ei, Int.toNat_natCast, ff_8]; done)) | (refine WK.condF ?_ ?_; focus (simp only [ev_tmp, ev_const, fset_apply, Nat.reduceEqDiff, ↓reduceIte, decide_true, decide_false, f1, f29, f30, f31, hil', hil, h0n, hx, ci, hb, c0, h0i, g1', g2, ac_0, ac_1, hilr, hil2, hy, ei, Int.toNat_natCast, ff_8]; done)))
      (first | refine WK.retNil ⟨Or.inr rfl, _, rfl, ?_, ?_⟩ | refine WK.skipNil ⟨Or.inl rfl, _, rfl, ?_, ?_⟩)
      · exact hk.keep
      · simp only [packed, fset_apply, Nat.reduceEqDiff, ↓reduceIte, List.getD_cons_zero, List.getD_cons_succ, ff_8]
        rw [Mini.right_no hil]
        rw [hgi, hg0, hri]
        have : ¬ (-1 ≤ R[i]) := by omega
        simp [Mini.okR, this]
    have wi := ws.row _ (List.getElem_mem hil)
    have hrow : N[i].length = N[0].length := g1
    generalize hl : N[i] = L at *
    repeat (first | apply WK.seq | apply WK.block | apply WK.skipSeq | apply WK.skipBlock | apply WK.retSeq | apply WK.retBlock | apply WK.exitSeq | apply WK.exitHere | refine WK.exitOn rfl ?_ | ((first | (refine WK.rgn ?_ ?_; kernel_rfl) | refine AtCall.now ?_); simp (config := { maxSteps := 1000000 }) only [SS, forall_const, wx, tguard, acallee, top, tval, fput, tor, vsh, vbin, tload, tload2, tload3, tidx, tidx2, tidx3, tfa, tfa2, tlen2, tlen3, tpick, tbox, one, Int.reduceEq, Int.reduceNeg, Nat.reduceGT, Nat.reduceLT, Nat.reduceLeDiff, Nat.reduceEqDiff, ↓reduceIte, reduceCtorEq, Int.reduceToNat, Int.reduceLE, Int.reduceLT, Nat.reduceAdd, Nat.reduceMul, f1, f29, f30, f31, hil', hil, h0n, hx, ci, hb, c0, h0i, g1', g2, ac_0, ac_1, hilr, hil2, hy, ei, Int.toNat_natCast, ff_8]) | (refine WK.condT ?_ ?_; focus (simp only [ev_tmp, ev_const, fset_apply, Nat.reduceEqDiff, ↓reduceIte, decide_true, decide_false, f1, f29, f30, f31, hil', hil, h0n, hx, ci, hb, c0, h0i, g1', g2, ac_0, ac_1, hilr, hil2, hy, ei, Int.toNat_natCast, ff_8]; done)) | (refine WK.condF ?_ ?_; focus (simp only [ev_tmp, ev_const, fset_apply, Nat.reduceEqDiff, ↓reduceIte, decide_true, decide_false, f1, f29, f30, f31, hil', hil, h0n, hx, ci, hb, c0, h0i, g1', g2, ac_0, ac_1, hilr, hil2, hy, ei, Int.toNat_natCast, ff_8]; done)))
    refine WK.loop (fun kk s => ∃ j : Nat, j ≤ L.length ∧ s.n = n + 1 ∧ s.H = H' ∧ s.f 1 = .pointer (some ⟨n, 0, none⟩) ∧ s.f 29 = .slice (some ⟨x, k, none⟩) N.length N.length ∧ s.f 30 = .int .i64 (N.length : Int) ∧ s.f 31 = .int .i64 (i : Int) ∧
      s.f 3 = .int .i64 (i : Int) ∧ s.f 52 = .slice p L.length L.length ∧ s.f 53 = .int .i64 (L.length : Int) ∧ s.f 54 = .int .i64 (j : Int) ∧ kk = L.length - j ∧ ∀ t (ht : t < L.length), t < j → Mini.okT N.length R[i] L[t] = true) L.length ?_ ?_
    · exact ⟨0, Nat.zero_le _, rfl, rfl, f1, f29, f30, f31, rfl, rfl, rfl, rfl, rfl, fun t ht h => absurd h (Nat.not_lt_zero _)⟩
    rintro kk ⟨f, n', H''⟩ ⟨j, hj, rfl, rfl, f1, f29, f30, f31, f3, f52, f53, f54, rfl, hal⟩ ih2
    simp only at f1 f29 f30 f31 f3 f52 f53 f54 ih ih2 hx hb hR hr hy hp
    by_cases hjl : j < L.length
    · have hjl' : ((j : Int) < (L.length : Int)) = True := by simp only [eq_iff_iff, iff_true]; omega
      have h0j : (0 : Int) ≤ (j : Int) := Int.natCast_nonneg j
      obtain ⟨z, m, es, ty3, own3, rfl, hz, ej⟩ := hp.at hjl
      have hok : Mini.okT N.length R[i] L[j] = (decide (-1 ≤ L[j]) && decide (L[j] < N.length) && !(decide (0 ≤ L[j]) && decide (0 ≤ R[i]))) := rfl
      have no : Mini.okT N.length R[i] L[j] = false → Mini.rightB N R = false := fun h => by
        refine Mini.right_no hil ?_
        rw [hgi, hri]
        exact Mini.okR_no hjl h
      have back : Mini.okT N.length R[i] L[j] = true → ∀ t (ht : t < L.length), t < j + 1 → Mini.okT N.length R[i] L[t] = true := fun h t ht htj => by
        by_cases e : t = j
        · subst e; exact h
        · exact hal t ht (by omega)
      generalize L[j] = X at *
      by_cases c1 : X < -1
      · repeat (first | apply WK.seq | apply WK.block | apply WK.skipSeq | apply WK.skipBlock | apply WK.retSeq | apply WK.retBlock | apply WK.exitSeq | apply WK.exitHere | refine WK.exitOn rfl ?_ | ((first | (refine WK.rgn ?_ ?_; kernel_rfl) | refine AtCall.now ?_); simp (config := { maxSteps := 1000000 }) only [SS, forall_const, wx, tguard, acallee, top, tval, fput, tor, vsh, vbin, tload, tload2, tload3, tidx, tidx2, tidx3, tfa, tfa2, tlen2, tlen3, tpick, tbox, one, Int.reduceEq, Int.reduceNeg, Nat.reduceGT, Nat.reduceLT, Nat.reduceLeDiff, Nat.reduceEqDiff, ↓reduceIte, reduceCtorEq, Int.reduceToNat, Int.reduceLE, Int.reduceLT, Nat.reduceAdd, Nat.reduceMul, f1, f29, f30, f31, f3, f52, f53, f54, hjl', hjl, h0j, hz, ej, hb, c1, ac_0, ac_1, Int.toNat_natCast, ff_8]) | (refine WK.condT ?_ ?_; focus (simp only [ev_tmp, ev_const, fset_apply, Nat.reduceEqDiff, ↓reduceIte, decide_true, decide_false, f1, f29, f30, f31, f3, f52, f53, f54, hjl', hjl, h0j, hz, ej, hb, c1, ac_0, ac_1, Int.toNat_natCast, ff_8]; done)) | (refine WK.condF ?_ ?_; focus (simp only [ev_tmp, ev_const, fset_apply, Nat.reduceEqDiff, ↓reduceIte, decide_true, decide_false, f1, f29, f30, f31, f3, f52, f53, f54, hjl', hjl, h0j, hz, ej, hb, c1, ac_0, ac_1, Int.toNat_natCast, ff_8]; done)))
        (first | refine WK.retNil ⟨Or.inr rfl, _, rfl, ?_, ?_⟩ | refine WK.skipNil ⟨Or.inl rfl, _, rfl, ?_, ?_⟩)
        · exact hk.keep
        · simp only [packed, fset_apply, Nat.reduceEqDiff, ↓reduceIte, List.getD_cons_zero, List.getD_cons_succ, ff_8]
          rw [no (by rw [hok, decide_eq_false (show ¬ -1 ≤ X by omega)]; rfl)]
      by_cases c2 : (N.length : Int) ≤ X
      · repeat (first | apply WK.seq | apply WK.block | apply WK.skipSeq | apply WK.skipBlock | apply WK.retSeq | apply WK.retBlock | apply WK.exitSeq | apply WK.exitHere | refine WK.exitOn rfl ?_ | ((first | (refine WK.rgn ?_ ?_; kernel_rfl) | refine AtCall.now ?_); simp (config := { maxSteps := 1000000 }) only [SS, forall_const, wx, tguard, acallee, top, tval, fput, tor, vsh, vbin, tload, tload2, tload3, tidx, tidx2, tidx3, tfa, tfa2, tlen2, tlen3, tpick, tbox, one, Int.reduceEq, Int.reduceNeg, Nat.reduceGT, Nat.reduceLT, Nat.reduceLeDiff, Nat.reduceEqDiff, ↓reduceIte, reduceCtorEq, Int.reduceToNat, Int.reduceLE, Int.reduceLT, Nat.reduceAdd, Nat.reduceMul, f1, f29, f30, f31, f3, f52, f53, f54, hjl', hjl, h0j, hz, ej, hb, c1, c2, ac_0, ac_1, Int.toNat_natCast, ff_8]) | (refine WK.condT ?_ ?_; focus (simp only [ev_tmp, ev_const, fset_apply, Nat.reduceEqDiff, ↓reduceIte, decide_true, decide_false, f1, f29, f30, f31, f3, f52, f53, f54, hjl', hjl, h0j, hz, ej, hb, c1, c2, ac_0, ac_1, Int.toNat_natCast, ff_8]; done)) | (refine WK.condF ?_ ?_; focus (simp only [ev_tmp, ev_const, fset_apply, Nat.reduceEqDiff, ↓reduceIte, decide_true, decide_false, f1, f29, f30, f31, f3, f52, f53, f54, hjl', hjl, h0j, hz, ej, hb, c1, c2, ac_0, ac_1, Int.toNat_natCast, ff_8]; done)))
        (first | refine WK.retNil ⟨Or.inr rfl, _, rfl, ?_, ?_⟩ | refine WK.skipNil ⟨Or.inl rfl, _, rfl, ?_, ?_⟩)
        · exact hk.keep
        · simp only [packed, fset_apply, Nat.reduceEqDiff, ↓reduceIte, List.getD_cons_zero, List.getD_cons_succ, ff_8]
          rw [no (by rw [hok, decide_eq_false (show ¬ X < N.length by omega)]; simp)]
      have x1 : -1 ≤ X := by omega
      have x2 : X < N.length := by omega
      by_cases c3 : 0 ≤ X
      · by_cases c4 : 0 ≤ R[i]
        · repeat (first | apply WK.seq | apply WK.block | apply WK.skipSeq | apply WK.skipBlock | apply WK.retSeq | apply WK.retBlock | apply WK.exitSeq | apply WK.exitHere | refine WK.exitOn rfl ?_ | ((first | (refine WK.rgn ?_ ?_; kernel_rfl) | refine AtCall.now ?_); simp (config := { maxSteps := 1000000 }) only [SS, forall_const, wx, tguard, acallee, top, tval, fput, tor, vsh, vbin, tload, tload2, tload3, tidx, tidx2, tidx3, tfa, tfa2, tlen2, tlen3, tpick, tbox, one, Int.reduceEq, Int.reduceNeg, Nat.reduceGT, Nat.reduceLT, Nat.reduceLeDiff, Nat.reduceEqDiff, ↓reduceIte, reduceCtorEq, Int.reduceToNat, Int.reduceLE, Int.reduceLT, Nat.reduceAdd, Nat.reduceMul, f1, f29, f30, f31, f3, f52, f53, f54, hjl', hjl, h0j, hz, ej, hb, c1, c2, c3, c4, hilr, hil2, hil', hil, h0n, hy, ei, ac_0, ac_1, Int.toNat_natCast, ff_8]) | (refine WK.condT ?_ ?_; focus (simp only [ev_tmp, ev_const, fset_apply, Nat.reduceEqDiff, ↓reduceIte, decide_true, decide_false, f1, f29, f30, f31, f3, f52, f53, f54, hjl', hjl, h0j, hz, ej, hb, c1, c2, c3, c4, hilr, hil2, hil', hil, h0n, hy, ei, ac_0, ac_1, Int.toNat_natCast, ff_8]; done)) | (refine WK.condF ?_ ?_; focus (simp only [ev_tmp, ev_const, fset_apply, Nat.reduceEqDiff, ↓reduceIte, decide_true, decide_false, f1, f29, f30, f31, f3, f52, f53, f54, hjl', hjl, h0j, hz, ej, hb, c1, c2, c3, c4, hilr, hil2, hil', hil, h0n, hy, ei, ac_0, ac_1, Int.toNat_natCast, ff_8]; done)))
          (first | refine WK.retNil ⟨Or.inr rfl, _, rfl, ?_, ?_⟩ | refine WK.skipNil ⟨Or.inl rfl, _, rfl, ?_, ?_⟩)
          · exact hk.keep
          · simp only [packed, fset_apply, Nat.reduceEqDiff, ↓reduceIte, List.getD_cons_zero, List.getD_cons_succ, ff_8]
            rw [no (by rw [hok, decide_eq_true c3, decide_eq_true c4]; simp)]
        · repeat (first | apply WK.seq | apply WK.block | apply WK.skipSeq | apply WK.skipBlock | apply WK.retSeq | apply WK.retBlock | apply WK.exitSeq | apply WK.exitHere | refine WK.exitOn rfl ?_ | ((first | (refine WK.rgn ?_ ?_; kernel_rfl) | refine AtCall.now ?_); simp (config := { maxSteps := 1000000 }) only [SS, forall_const, wx, tguard, acallee, top, tval, fput, tor, vsh, vbin, tload, tload2, tload3, tidx, tidx2, tidx3, tfa, tfa2, tlen2, tlen3, tpick, tbox, one, Int.reduceEq, Int.reduceNeg, Nat.reduceGT, Nat.reduceLT, Nat.reduceLeDiff, Nat.reduceEqDiff, ↓reduceIte, reduceCtorEq, Int.reduceToNat, Int.reduceLE, Int.reduceLT, Nat.reduceAdd, Nat.reduceMul, f1, f29, f30, f31, f3, f52, f53, f54, hjl', hjl, h0j, hz, ej, hb, c1, c2, c3, c4, hilr, hil2, hil', hil, h0n, hy, ei, ac_0, ac_1, Int.toNat_natCast, ff_8]) | (refine WK.condT ?_ ?_; focus (simp only [ev_tmp, ev_const, fset_apply, Nat.reduceEqDiff, ↓reduceIte, decide_true, decide_false, f1, f29, f30, f31, f3, f52, f53, f54, hjl', hjl, h0j, hz, ej, hb, c1, c2, c3, c4, hilr, hil2, hil', hil, h0n, hy, ei, ac_0, ac_1, Int.toNat_natCast, ff_8]; done)) | (refine WK.condF ?_ ?_; focus (simp only [ev_tmp, ev_const, fset_apply, Nat.reduceEqDiff, ↓reduceIte, decide_true, decide_false, f1, f29, f30, f31, f3, f52, f53, f54, hjl', hjl, h0j, hz, ej, hb, c1, c2, c3, c4, hilr, hil2, hil', hil, h0n, hy, ei, ac_0, ac_1, Int.toNat_natCast, ff_8]; done)))
          refine ih2 (L.length - (j + 1)) (by omega) _ ⟨j + 1, hjl, rfl, rfl, f1, f29, f30, f31, f3, f52, f53, ?_, rfl, back (by rw [hok, decide_eq_true x1, decide_eq_true x2, decide_eq_false c4]; simp)⟩
          simp only [packed, fset_apply, Nat.reduceEqDiff, ↓reduceIte, List.getD_cons_zero, List.getD_cons_succ, wrap_up hjl wi.1, ff_8]
      · repeat (first | apply WK.seq | apply WK.block | apply WK.skipSeq | apply WK.skipBlock | apply WK.retSeq | apply WK.retBlock | apply WK.exitSeq | apply WK.exitHere | refine WK.exitOn rfl ?_ | ((first | (refine WK.rgn ?_ ?_; kernel_rfl) | refine AtCall.now ?_); simp (config := { maxSteps := 1000000 }) only [SS, forall_const, wx, tguard, acallee, top, tval, fput, tor, vsh, vbin, tload, tload2, tload3, tidx, tidx2, tidx3, tfa, tfa2, tlen2, tlen3, tpick, tbox, one, Int.reduceEq, Int.reduceNeg, Nat.reduceGT, Nat.reduceLT, Nat.reduceLeDiff, Nat.reduceEqDiff, ↓reduceIte, reduceCtorEq, Int.reduceToNat, Int.reduceLE, Int.reduceLT, Nat.reduceAdd, Nat.reduceMul, f1, f29, f30, f31, f3, f52, f53, f54, hjl', hjl, h0j, hz, ej, hb, c1, c2, c3, hilr, hil2, hil', hil, h0n, hy, ei, ac_0, ac_1, Int.toNat_natCast, ff_8]) | (refine WK.condT ?_ ?_; focus (simp only [ev_tmp, ev_const, fset_apply, Nat.reduceEqDiff, ↓reduceIte, decide_true, decide_false, f1, f29, f30, f31, f3, f52, f53, f54, hjl', hjl, h0j, hz, ej, hb, c1, c2, c3, hilr, hil2, hil', hil, h0n, hy, ei, ac_0, ac_1, Int.toNat_natCast, ff_8]; done)) | (refine WK.condF ?_ ?_; focus (simp only [ev_tmp, ev_const, fset_apply, Nat.reduceEqDiff, ↓reduceIte, decide_true, decide_false, f1, f29, f30, f31, f3, f52, f53, f54, hjl', hjl, h0j, hz, ej, hb, c1, c2, c3, hilr, hil2, hil', hil, h0n, hy, ei, ac_0, ac_1, Int.toNat_natCast, ff_8]; done)))
        refine ih2 (L.length - (j + 1)) (by omega) _ ⟨j + 1, hjl, rfl, rfl, f1, f29, f30, f31, f3, f52, f53, ?_, rfl, back (by rw [hok, decide_eq_true x1, decide_eq_true x2, decide_eq_false c3]; simp)⟩
        simp only [packed, fset_apply, Nat.reduceEqDiff, ↓reduceIte, List.getD_cons_zero, List.getD_cons_succ, wrap_up hjl wi.1, ff_8]
    · have hjl' : ((j : Int) < (L.length : Int)) = False := by simp only [eq_iff_iff, iff_false]; omega
      repeat (first | apply WK.seq | apply WK.block | apply WK.skipSeq | apply WK.skipBlock | apply WK.retSeq | apply WK.retBlock | apply WK.exitSeq | apply WK.exitHere | refine WK.exitOn rfl ?_ | ((first | (refine WK.rgn ?_ ?_; kernel_rfl) | refine AtCall.now ?_); simp (config := { maxSteps := 1000000 }) only [SS, forall_const, wx, tguard, acallee, top, tval, fput, tor, vsh, vbin, tload, tload2, tload3, tidx, tidx2, tidx3, tfa, tfa2, tlen2, tlen3, tpick, tbox, one, Int.reduceEq, Int.reduceNeg, Nat.reduceGT, Nat.reduceLT, Nat.reduceLeDiff, Nat.reduceEqDiff, ↓reduceIte, reduceCtorEq, Int.reduceToNat, Int.reduceLE, Int.reduceLT, Nat.reduceAdd, Nat.reduceMul, f1, f29, f30, f31, f3, f52, f53, f54, hjl', Int.toNat_natCast, ff_8]) | (refine WK.condT ?_ ?_; focus (simp only [ev_tmp, ev_const, fset_apply, Nat.reduceEqDiff, ↓reduceIte, decide_true, decide_false, f1, f29, f30, f31, f3, f52, f53, f54, hjl', Int.toNat_natCast, ff_8]; done)) | (refine WK.condF ?_ ?_; focus (simp only [ev_tmp, ev_const, fset_apply, Nat.reduceEqDiff, ↓reduceIte, decide_true, decide_false, f1, f29, f30, f31, f3, f52, f53, f54, hjl', Int.toNat_natCast, ff_8]; done)))
      refine ih (N.length - (i + 1)) (by omega) _ ⟨i + 1, hil, rfl, rfl, f1, f29, f30, ?_, rfl, ?_⟩
      · simp only [packed, fset_apply, Nat.reduceEqDiff, ↓reduceIte, List.getD_cons_zero, List.getD_cons_succ, wrap_up hil wn, ff_8]
      · intro s hs
        by_cases e : s = i
        · subst e
          rw [hgi, hri, hg0]
          unfold Mini.okR
          simp only [Bool.and_eq_true, decide_eq_true_eq, List.all_eq_true]
          refine ⟨⟨hrow, by omega⟩, fun y hy => ?_⟩
          obtain ⟨t, ht, rfl⟩ := List.getElem_of_mem hy
          exact hal t ht (by omega)
        · exact hall s (by omega)
  · have hil' : ((i : Int) < (N.length : Int)) = False := by simp only [eq_iff_iff, iff_false]; omega
    repeat (first | apply WK.seq | apply WK.block | apply WK.skipSeq | apply WK.skipBlock | apply WK.retSeq | apply WK.retBlock | apply WK.exitSeq | apply WK.exitHere | refine WK.exitOn rfl ?_ | ((first | (refine WK.rgn ?_ ?_; kernel_rfl) | refine AtCall.now ?_); simp (config := { maxSteps := 1000000 }) only [SS, forall_const, wx, tguard, acallee, top, tval, fput, tor, vsh, vbin, tload, tload2, tload3, tidx, tidx2, tidx3, tfa, tfa2, tlen2, tlen3, tpick, tbox, one, Int.reduceEq, Int.reduceNeg, Nat.reduceGT, Nat.reduceLT, Nat.reduceLeDiff, Nat.reduceEqDiff, ↓reduceIte, reduceCtorEq, Int.reduceToNat, Int.reduceLE, Int.reduceLT, Nat.reduceAdd, Nat.reduceMul, f1, f29, f30, f31, hil', ff_8]) | (refine WK.condT ?_ ?_; focus (simp only [ev_tmp, ev_const, fset_apply, Nat.reduceEqDiff, ↓reduceIte, decide_true, decide_false, f1, f29, f30, f31, hil', ff_8]; done)) | (refine WK.condF ?_ ?_; focus (simp only [ev_tmp, ev_const, fset_apply, Nat.reduceEqDiff, ↓reduceIte, decide_true, decide_false, f1, f29, f30, f31, hil', ff_8]; done)))
    (first | refine WK.retNil ⟨Or.inr rfl, _, rfl, ?_, ?_⟩ | refine WK.skipNil ⟨Or.inl rfl, _, rfl, ?_, ?_⟩)
    · exact hk.keep
    · simp only [packed, fset_apply, Nat.reduceEqDiff, ↓reduceIte, List.getD_cons_zero, List.getD_cons_succ, ff_8]
      have : Mini.rightB N R = true := by
        unfold Mini.rightB
        simp only [Bool.and_eq_true, decide_eq_true_eq, List.all_eq_true, List.mem_range, hg0]
        refine ⟨⟨⟨h1, h2⟩, h3⟩, fun s hs => ?_⟩
        rw [← hg0]
        exact hall s (by omega)
      rw [this]
end Go.Proofs.YtgnmaekfiifepaaDoor
