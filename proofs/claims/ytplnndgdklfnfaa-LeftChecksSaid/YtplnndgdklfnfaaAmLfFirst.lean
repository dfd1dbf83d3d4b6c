/- A part of a proof. Its conditions: none. -/
import Derived.Test.YtplnndgdklfnfaaAmLfRef09
import Derived.Test.YtplnndgdklfnfaaAmLfEdges
set_option linter.all false
namespace Go.Proofs.Ytplnndgdklfnfaa
open Go.AM

set_option maxHeartbeats 4000000 in
theorem first_gives {v : Value} {g : Gram} {a b n : Nat} {H : Heap} (hw : WF n H) (hg : RG H v g) (wg : WG g) (ok : RightOK g) :
    Gives Try.prog 27 [v, .int .i64 a, .int .i64 b] n H fun v _ _ => ∃ t, v = .bool t ∧ (t = true ↔ Beg g a b) := by
  have hg0 := hg
  obtain ⟨pt, pv, pr, rfl, ht, hv, hr⟩ := hg
  refine Gives.of orders ok27 (Nat.le_of_ble_eq_true rfl) ?_
  have hk := Kp.new n H (.cells (gcells pt pv pr g) 25 true)
  have hb := hset_at H n (.cells (gcells pt pv pr g) 25 true)
  have hi := ok.inG
  have hrl := ok.rules
-- function 27
  repeat (first | apply WK.seq | apply WK.block | apply WK.skipSeq | apply WK.skipBlock | apply WK.retSeq | apply WK.retBlock | apply WK.exitSeq | apply WK.exitHere | refine WK.exitOn rfl ?_)
  (refine WK.rgn ?_ ?_; kernel_rfl; simp (config := { maxSteps := 1000000 }) only [SS, forall_const, wx, tguard, acallee, top, tval, fput, tor, vsh, vbin, vun, tload, tload2, tload3, tidx, tidx2, tfa, tfa2, tlen2, tpick, tbox, one, Int.reduceEq, Int.reduceNeg, Nat.reduceGT, Nat.reduceLT, Nat.reduceLeDiff, Nat.reduceEqDiff, ↓reduceIte, reduceCtorEq, Int.reduceToNat, Int.reduceLE, Int.reduceLT, Nat.reduceAdd, Nat.reduceMul, box_cells, box_one, ff_27])
  generalize hset H n (.cells (gcells pt pv pr g) 25 true) = H1 at *
  repeat (first | apply WK.seq | apply WK.block | apply WK.skipSeq | apply WK.skipBlock | apply WK.retSeq | apply WK.retBlock | apply WK.exitSeq | apply WK.exitHere | refine WK.exitOn rfl ?_)
  (refine WK.rgn ?_ ?_; kernel_rfl; simp (config := { maxSteps := 1000000 }) only [SS, forall_const, wx, tguard, acallee, top, tval, fput, tor, vsh, vbin, vun, tload, tload2, tload3, tidx, tidx2, tfa, tfa2, tlen2, tpick, tbox, one, Int.reduceEq, Int.reduceNeg, Nat.reduceGT, Nat.reduceLT, Nat.reduceLeDiff, Nat.reduceEqDiff, ↓reduceIte, reduceCtorEq, Int.reduceToNat, Int.reduceLE, Int.reduceLT, Nat.reduceAdd, Nat.reduceMul, hb, gc_len, gc_all, ff_27])
  refine AtCall.by (nullableR_gives (hk.wf hw) (hg0.mono hw hk) wg ok) ?_
  rintro v n2 H2 k2 ⟨hs, x, hx0, rfl, hl, hx, hn⟩
  have kk := hk.trans k2
  have hb2 := (k2.keep n (by omega)).trans hb
  replace hr := hr.mono hw kk
  simp (config := { maxSteps := 1000000 }) only [SS, forall_const, wx, tguard, acallee, top, tval, fput, tor, vsh, vbin, vun, tload, tload2, tload3, tidx, tidx2, tfa, tfa2, tlen2, tpick, tbox, one, Int.reduceEq, Int.reduceNeg, Nat.reduceGT, Nat.reduceLT, Nat.reduceLeDiff, Nat.reduceEqDiff, ↓reduceIte, reduceCtorEq, Int.reduceToNat, Int.reduceLE, Int.reduceLT, Nat.reduceAdd, Nat.reduceMul, ff_27]
  repeat (first | apply WK.seq | apply WK.block | apply WK.skipSeq | apply WK.skipBlock | apply WK.retSeq | apply WK.retBlock | apply WK.exitSeq | apply WK.exitHere | refine WK.exitOn rfl ?_ | ((first | (refine WK.rgn ?_ ?_; kernel_rfl) | refine AtCall.now ?_); simp (config := { maxSteps := 1000000 }) only [SS, forall_const, wx, tguard, acallee, top, tval, fput, tor, vsh, vbin, vun, tload, tload2, tload3, tidx, tidx2, tfa, tfa2, tlen2, tpick, tbox, one, Int.reduceEq, Int.reduceNeg, Nat.reduceGT, Nat.reduceLT, Nat.reduceLeDiff, Nat.reduceEqDiff, ↓reduceIte, reduceCtorEq, Int.reduceToNat, Int.reduceLE, Int.reduceLT, Nat.reduceAdd, Nat.reduceMul, hb2, gc_2, ff_27]) | (refine WK.condT ?_ ?_; focus (simp only [ev_tmp, ev_const, fset_apply, Nat.reduceEqDiff, ↓reduceIte, decide_true, decide_false, hb2, gc_2, ff_27]; done)) | (refine WK.condF ?_ ?_; focus (simp only [ev_tmp, ev_const, fset_apply, Nat.reduceEqDiff, ↓reduceIte, decide_true, decide_false, hb2, gc_2, ff_27]; done)))
  refine WK.loop (fun k s => ∃ i, s.n = n2 ∧ s.H = H2 ∧ s.f 1 = .int .i64 a ∧ s.f 2 = .int .i64 b ∧ s.f 3 = .pointer (some ⟨n, 0, none⟩) ∧ s.f 7 = .slice (some ⟨x, 0, none⟩) g.vars.length g.vars.length ∧ s.f 8 = .int .i64 (i : Nat) ∧ i ≤ g.rules.length ∧ (∀ r q, Edg g a r q b → i ≤ r) ∧ k = g.rules.length - i) g.rules.length ?_ ?_
  · exact ⟨0, rfl, rfl, rfl, rfl, rfl, rfl, rfl, Nat.zero_le _, (fun r q _ => Nat.zero_le _), rfl⟩
  rintro kk' ⟨f, n3, H3⟩ ⟨i, rfl, rfl, f1, f2, f3, f7, f8, hir, hno, rfl⟩ ih
  simp only at f1 f2 f3 f7 f8 ih hb2 hx hr
  by_cases hjr : i < g.rules.length
  · obtain ⟨z, kz, cs, ty, own, p, e0, hz, d0, d1, d2, hp⟩ := hr.at hjr
    subst e0
    have hiw : IntKind.i64.wrap ((i : Int) + 1) = ((i + 1 : Nat) : Int) := by rw [wrap_in (by omega) (by omega)]; rfl
    by_cases hla : g.rules[i].left = a
    · repeat (first | apply WK.seq | apply WK.block | apply WK.skipSeq | apply WK.skipBlock | apply WK.retSeq | apply WK.retBlock | apply WK.exitSeq | apply WK.exitHere | refine WK.exitOn rfl ?_ | ((first | (refine WK.rgn ?_ ?_; kernel_rfl) | refine AtCall.now ?_); simp (config := { maxSteps := 1000000 }) only [SS, forall_const, wx, tguard, acallee, top, tval, fput, tor, vsh, vbin, vun, tload, tload2, tload3, tidx, tidx2, tfa, tfa2, tlen2, tpick, tbox, one, Int.reduceEq, Int.reduceNeg, Nat.reduceGT, Nat.reduceLT, Nat.reduceLeDiff, Nat.reduceEqDiff, ↓reduceIte, reduceCtorEq, Int.reduceToNat, Int.reduceLE, Int.reduceLT, Nat.reduceAdd, Nat.reduceMul, f1, f2, f3, f7, f8, hb2, gc_2, hjr, hz, d0, d1, hla, ff_27]) | (refine WK.condT ?_ ?_; focus (simp only [ev_tmp, ev_const, fset_apply, Nat.reduceEqDiff, ↓reduceIte, decide_true, decide_false, f1, f2, f3, f7, f8, hb2, gc_2, hjr, hz, d0, d1, hla, ff_27]; done)) | (refine WK.condF ?_ ?_; focus (simp only [ev_tmp, ev_const, fset_apply, Nat.reduceEqDiff, ↓reduceIte, decide_true, decide_false, f1, f2, f3, f7, f8, hb2, gc_2, hjr, hz, d0, d1, hla, ff_27]; done)))
      refine WK.loop (fun k s => ∃ j, s.n = n3 ∧ s.H = H3 ∧ s.f 1 = .int .i64 a ∧ s.f 2 = .int .i64 b ∧ s.f 3 = .pointer (some ⟨n, 0, none⟩) ∧ s.f 7 = .slice (some ⟨x, 0, none⟩) g.vars.length g.vars.length ∧ s.f 8 = .int .i64 (i : Nat) ∧ s.f 9 = .int .i64 (j : Nat) ∧ j ≤ g.rules[i].right.length ∧
          (∀ q, q < j → ∀ s, g.rules[i].right[q]? = some s → Nul g s ∧ s ≠ b) ∧ k = g.rules[i].right.length - j) g.rules[i].right.length ?_ ?_
      · exact ⟨0, rfl, rfl, f1, f2, f3, f7, f8, rfl, Nat.zero_le _, (fun q hq => by omega), rfl⟩
      clear f1 f2 f3 f7 f8
      rintro kk' ⟨f, n4, H4⟩ ⟨j, rfl, rfl, f1, f2, f3, f7, f8, f9, hj, hpre, rfl⟩ ih2
      simp only at f1 f2 f3 f7 f8 f9 ih2 hb2 hx hz hp ih
      have hrl2 := (ok.rule i hjr).len
      -- what is not there any more behind a break
      have stop : ∀ s, g.rules[i].right[j]? = some s → s ≠ b → ¬ Nul g s → ∀ r q, Edg g a r q b → i + 1 ≤ r := by
        intro s hs hsb hns r q hE
        have h1 := hno r q hE
        apply Classical.byContradiction
        intro h2
        have h3 : r = i := by omega
        subst h3
        rcases Nat.lt_trichotomy q j with h4 | h4 | h4
        · exact (hpre q h4 _ hE.hat).2 rfl
        · subst h4
          have := hE.hat
          rw [hs] at this
          exact hsb (Option.some.inj this)
        · exact hns (hE.nul j h4 s hs)
      by_cases hjl : j < g.rules[i].right.length
      · obtain ⟨z2, k2', ds, tz, oz, e0, hz2, e⟩ := hp.at hjl
        have hat := List.getElem?_eq_getElem hjl
        have hjw : IntKind.i64.wrap ((j : Int) + 1) = ((j + 1 : Nat) : Int) := by rw [wrap_in (by omega) (by omega)]; rfl
        subst e0
        by_cases hsb : g.rules[i].right[j] = b
        · repeat (first | apply WK.seq | apply WK.block | apply WK.skipSeq | apply WK.skipBlock | apply WK.retSeq | apply WK.retBlock | apply WK.exitSeq | apply WK.exitHere | refine WK.exitOn rfl ?_ | ((first | (refine WK.rgn ?_ ?_; kernel_rfl) | refine AtCall.now ?_); simp (config := { maxSteps := 1000000 }) only [SS, forall_const, wx, tguard, acallee, top, tval, fput, tor, vsh, vbin, vun, tload, tload2, tload3, tidx, tidx2, tfa, tfa2, tlen2, tpick, tbox, one, Int.reduceEq, Int.reduceNeg, Nat.reduceGT, Nat.reduceLT, Nat.reduceLeDiff, Nat.reduceEqDiff, ↓reduceIte, reduceCtorEq, Int.reduceToNat, Int.reduceLE, Int.reduceLT, Nat.reduceAdd, Nat.reduceMul, f1, f2, f3, f7, f8, f9, hb2, gc_2, hjr, hz, d0, d1, hjl, hz2, e, hsb, ff_27]) | (refine WK.condT ?_ ?_; focus (simp only [ev_tmp, ev_const, fset_apply, Nat.reduceEqDiff, ↓reduceIte, decide_true, decide_false, f1, f2, f3, f7, f8, f9, hb2, gc_2, hjr, hz, d0, d1, hjl, hz2, e, hsb, ff_27]; done)) | (refine WK.condF ?_ ?_; focus (simp only [ev_tmp, ev_const, fset_apply, Nat.reduceEqDiff, ↓reduceIte, decide_true, decide_false, f1, f2, f3, f7, f8, f9, hb2, gc_2, hjr, hz, d0, d1, hjl, hz2, e, hsb, ff_27]; done)))
          (first | refine WK.retNil ⟨Or.inr rfl, _, rfl, ?_, ?_⟩ | refine WK.skipNil ⟨Or.inl rfl, _, rfl, ?_, ?_⟩)
          · exact kk.keep
          · simp only [packed, fset_apply, Nat.reduceEqDiff, ↓reduceIte, List.getD_cons_zero, List.getD_cons_succ, ff_27]
            refine ⟨true, rfl, ⟨fun _ => ⟨i, j, hjr, hla, by rw [hat, hsb], by omega, fun q hq s hs => (hpre q hq s hs).1⟩, fun _ => rfl⟩⟩
        · by_cases h0 : g.rules[i].right[j] < 0
          · repeat (first | apply WK.seq | apply WK.block | apply WK.skipSeq | apply WK.skipBlock | apply WK.retSeq | apply WK.retBlock | apply WK.exitSeq | apply WK.exitHere | refine WK.exitOn rfl ?_ | ((first | (refine WK.rgn ?_ ?_; kernel_rfl) | refine AtCall.now ?_); simp (config := { maxSteps := 1000000 }) only [SS, forall_const, wx, tguard, acallee, top, tval, fput, tor, vsh, vbin, vun, tload, tload2, tload3, tidx, tidx2, tfa, tfa2, tlen2, tpick, tbox, one, Int.reduceEq, Int.reduceNeg, Nat.reduceGT, Nat.reduceLT, Nat.reduceLeDiff, Nat.reduceEqDiff, ↓reduceIte, reduceCtorEq, Int.reduceToNat, Int.reduceLE, Int.reduceLT, Nat.reduceAdd, Nat.reduceMul, f1, f2, f3, f7, f8, f9, hb2, gc_2, hjr, hz, d0, d1, hjl, hz2, e, hsb, h0, ff_27]) | (refine WK.condT ?_ ?_; focus (simp only [ev_tmp, ev_const, fset_apply, Nat.reduceEqDiff, ↓reduceIte, decide_true, decide_false, f1, f2, f3, f7, f8, f9, hb2, gc_2, hjr, hz, d0, d1, hjl, hz2, e, hsb, h0, ff_27]; done)) | (refine WK.condF ?_ ?_; focus (simp only [ev_tmp, ev_const, fset_apply, Nat.reduceEqDiff, ↓reduceIte, decide_true, decide_false, f1, f2, f3, f7, f8, f9, hb2, gc_2, hjr, hz, d0, d1, hjl, hz2, e, hsb, h0, ff_27]; done)))
            refine ih (g.rules.length - (i + 1)) (by omega) _ ⟨i + 1, rfl, rfl, f1, f2, f3, f7, ?_, hjr, stop _ hat hsb (fun h => by have := nul_nonneg hi h; omega), rfl⟩
            simp only [packed, fset_apply, Nat.reduceEqDiff, ↓reduceIte, List.getD_cons_zero, List.getD_cons_succ, f8, hiw, ff_27]
          · obtain ⟨s, hs'⟩ : ∃ s : Nat, g.rules[i].right[j] = s := ⟨g.rules[i].right[j].toNat, by omega⟩
            have hsv : s < g.vars.length := by have := ((ok.rule i hjr).sym _ (List.getElem_mem hjl)).1; omega
            have hsl : s < hs.length := by omega
            have hgs : (hs.map Value.bool)[s]? = some (.bool hs[s]) := by rw [List.getElem?_map, List.getElem?_eq_getElem hsl]; rfl
            have hnu := hn s
            have hhold : hold hs s ↔ hs[s] = true := by simp [hold, hsl]
            rw [hhold] at hnu
            have hneg : ((s : Int) < 0) = False := by simp
            rw [hs'] at hsb hat
            cases hb7 : hs[s]
            · rw [hb7] at hgs hnu
              repeat (first | apply WK.seq | apply WK.block | apply WK.skipSeq | apply WK.skipBlock | apply WK.retSeq | apply WK.retBlock | apply WK.exitSeq | apply WK.exitHere | refine WK.exitOn rfl ?_ | ((first | (refine WK.rgn ?_ ?_; kernel_rfl) | refine AtCall.now ?_); simp (config := { maxSteps := 1000000 }) only [SS, forall_const, wx, tguard, acallee, top, tval, fput, tor, vsh, vbin, vun, tload, tload2, tload3, tidx, tidx2, tfa, tfa2, tlen2, tpick, tbox, one, Int.reduceEq, Int.reduceNeg, Nat.reduceGT, Nat.reduceLT, Nat.reduceLeDiff, Nat.reduceEqDiff, ↓reduceIte, reduceCtorEq, Int.reduceToNat, Int.reduceLE, Int.reduceLT, Nat.reduceAdd, Nat.reduceMul, f1, f2, f3, f7, f8, f9, hb2, gc_2, hjr, hz, d0, d1, hjl, hz2, e, hs', hsb, hneg, hsv, hx, hgs, ff_27]) | (refine WK.condT ?_ ?_; focus (simp only [ev_tmp, ev_const, fset_apply, Nat.reduceEqDiff, ↓reduceIte, decide_true, decide_false, f1, f2, f3, f7, f8, f9, hb2, gc_2, hjr, hz, d0, d1, hjl, hz2, e, hs', hsb, hneg, hsv, hx, hgs, ff_27]; done)) | (refine WK.condF ?_ ?_; focus (simp only [ev_tmp, ev_const, fset_apply, Nat.reduceEqDiff, ↓reduceIte, decide_true, decide_false, f1, f2, f3, f7, f8, f9, hb2, gc_2, hjr, hz, d0, d1, hjl, hz2, e, hs', hsb, hneg, hsv, hx, hgs, ff_27]; done)))
              refine ih (g.rules.length - (i + 1)) (by omega) _ ⟨i + 1, rfl, rfl, f1, f2, f3, f7, ?_, hjr, stop _ hat hsb (fun h => by simpa using hnu.2 h), rfl⟩
              simp only [packed, fset_apply, Nat.reduceEqDiff, ↓reduceIte, List.getD_cons_zero, List.getD_cons_succ, f8, hiw, ff_27]
            · rw [hb7] at hgs hnu
              repeat (first | apply WK.seq | apply WK.block | apply WK.skipSeq | apply WK.skipBlock | apply WK.retSeq | apply WK.retBlock | apply WK.exitSeq | apply WK.exitHere | refine WK.exitOn rfl ?_ | ((first | (refine WK.rgn ?_ ?_; kernel_rfl) | refine AtCall.now ?_); simp (config := { maxSteps := 1000000 }) only [SS, forall_const, wx, tguard, acallee, top, tval, fput, tor, vsh, vbin, vun, tload, tload2, tload3, tidx, tidx2, tfa, tfa2, tlen2, tpick, tbox, one, Int.reduceEq, Int.reduceNeg, Nat.reduceGT, Nat.reduceLT, Nat.reduceLeDiff, Nat.reduceEqDiff, ↓reduceIte, reduceCtorEq, Int.reduceToNat, Int.reduceLE, Int.reduceLT, Nat.reduceAdd, Nat.reduceMul, f1, f2, f3, f7, f8, f9, hb2, gc_2, hjr, hz, d0, d1, hjl, hz2, e, hs', hsb, hneg, hsv, hx, hgs, ff_27]) | (refine WK.condT ?_ ?_; focus (simp only [ev_tmp, ev_const, fset_apply, Nat.reduceEqDiff, ↓reduceIte, decide_true, decide_false, f1, f2, f3, f7, f8, f9, hb2, gc_2, hjr, hz, d0, d1, hjl, hz2, e, hs', hsb, hneg, hsv, hx, hgs, ff_27]; done)) | (refine WK.condF ?_ ?_; focus (simp only [ev_tmp, ev_const, fset_apply, Nat.reduceEqDiff, ↓reduceIte, decide_true, decide_false, f1, f2, f3, f7, f8, f9, hb2, gc_2, hjr, hz, d0, d1, hjl, hz2, e, hs', hsb, hneg, hsv, hx, hgs, ff_27]; done)))
              refine ih2 (g.rules[i].right.length - (j + 1)) (by omega) _ ⟨j + 1, rfl, rfl, f1, f2, f3, f7, f8, ?_, hjl, fun q hq s' hs2 => ?_, rfl⟩
              · simp only [packed, fset_apply, Nat.reduceEqDiff, ↓reduceIte, List.getD_cons_zero, List.getD_cons_succ, f9, hjw, ff_27]
              · rcases Nat.lt_or_ge q j with h1 | h1
                · exact hpre q h1 s' hs2
                · have : q = j := by omega
                  subst this
                  rw [hat] at hs2
                  cases hs2
                  exact ⟨hnu.1 rfl, hsb⟩
      · repeat (first | apply WK.seq | apply WK.block | apply WK.skipSeq | apply WK.skipBlock | apply WK.retSeq | apply WK.retBlock | apply WK.exitSeq | apply WK.exitHere | refine WK.exitOn rfl ?_ | ((first | (refine WK.rgn ?_ ?_; kernel_rfl) | refine AtCall.now ?_); simp (config := { maxSteps := 1000000 }) only [SS, forall_const, wx, tguard, acallee, top, tval, fput, tor, vsh, vbin, vun, tload, tload2, tload3, tidx, tidx2, tfa, tfa2, tlen2, tpick, tbox, one, Int.reduceEq, Int.reduceNeg, Nat.reduceGT, Nat.reduceLT, Nat.reduceLeDiff, Nat.reduceEqDiff, ↓reduceIte, reduceCtorEq, Int.reduceToNat, Int.reduceLE, Int.reduceLT, Nat.reduceAdd, Nat.reduceMul, f3, f8, f9, hb2, gc_2, hjr, hz, d1, hjl, ff_27]) | (refine WK.condT ?_ ?_; focus (simp only [ev_tmp, ev_const, fset_apply, Nat.reduceEqDiff, ↓reduceIte, decide_true, decide_false, f3, f8, f9, hb2, gc_2, hjr, hz, d1, hjl, ff_27]; done)) | (refine WK.condF ?_ ?_; focus (simp only [ev_tmp, ev_const, fset_apply, Nat.reduceEqDiff, ↓reduceIte, decide_true, decide_false, f3, f8, f9, hb2, gc_2, hjr, hz, d1, hjl, ff_27]; done)))
        refine ih (g.rules.length - (i + 1)) (by omega) _ ⟨i + 1, rfl, rfl, f1, f2, f3, f7, ?_, hjr, fun r q hE => ?_, rfl⟩
        · simp only [packed, fset_apply, Nat.reduceEqDiff, ↓reduceIte, List.getD_cons_zero, List.getD_cons_succ, f8, hiw, ff_27]
        · have h1 := hno r q hE
          apply Classical.byContradiction
          intro h2
          have h3 : r = i := by omega
          subst h3
          have hq := (List.getElem?_eq_some_iff.1 hE.hat).1
          exact (hpre q (by omega) _ hE.hat).2 rfl
    · repeat (first | apply WK.seq | apply WK.block | apply WK.skipSeq | apply WK.skipBlock | apply WK.retSeq | apply WK.retBlock | apply WK.exitSeq | apply WK.exitHere | refine WK.exitOn rfl ?_ | ((first | (refine WK.rgn ?_ ?_; kernel_rfl) | refine AtCall.now ?_); simp (config := { maxSteps := 1000000 }) only [SS, forall_const, wx, tguard, acallee, top, tval, fput, tor, vsh, vbin, vun, tload, tload2, tload3, tidx, tidx2, tfa, tfa2, tlen2, tpick, tbox, one, Int.reduceEq, Int.reduceNeg, Nat.reduceGT, Nat.reduceLT, Nat.reduceLeDiff, Nat.reduceEqDiff, ↓reduceIte, reduceCtorEq, Int.reduceToNat, Int.reduceLE, Int.reduceLT, Nat.reduceAdd, Nat.reduceMul, f1, f2, f3, f7, f8, hb2, gc_2, hjr, hz, d0, d1, hla, ff_27]) | (refine WK.condT ?_ ?_; focus (simp only [ev_tmp, ev_const, fset_apply, Nat.reduceEqDiff, ↓reduceIte, decide_true, decide_false, f1, f2, f3, f7, f8, hb2, gc_2, hjr, hz, d0, d1, hla, ff_27]; done)) | (refine WK.condF ?_ ?_; focus (simp only [ev_tmp, ev_const, fset_apply, Nat.reduceEqDiff, ↓reduceIte, decide_true, decide_false, f1, f2, f3, f7, f8, hb2, gc_2, hjr, hz, d0, d1, hla, ff_27]; done)))
      refine ih (g.rules.length - (i + 1)) (by omega) _ ⟨i + 1, rfl, rfl, f1, f2, f3, f7, ?_, hjr, fun r q hE => ?_, rfl⟩
      · simp only [packed, fset_apply, Nat.reduceEqDiff, ↓reduceIte, List.getD_cons_zero, List.getD_cons_succ, f8, hiw, ff_27]
      · have h1 := hno r q hE
        apply Classical.byContradiction
        intro h2
        have h3 : r = i := by omega
        subst h3
        exact hla hE.left
  · repeat (first | apply WK.seq | apply WK.block | apply WK.skipSeq | apply WK.skipBlock | apply WK.retSeq | apply WK.retBlock | apply WK.exitSeq | apply WK.exitHere | refine WK.exitOn rfl ?_ | ((first | (refine WK.rgn ?_ ?_; kernel_rfl) | refine AtCall.now ?_); simp (config := { maxSteps := 1000000 }) only [SS, forall_const, wx, tguard, acallee, top, tval, fput, tor, vsh, vbin, vun, tload, tload2, tload3, tidx, tidx2, tfa, tfa2, tlen2, tpick, tbox, one, Int.reduceEq, Int.reduceNeg, Nat.reduceGT, Nat.reduceLT, Nat.reduceLeDiff, Nat.reduceEqDiff, ↓reduceIte, reduceCtorEq, Int.reduceToNat, Int.reduceLE, Int.reduceLT, Nat.reduceAdd, Nat.reduceMul, f3, f8, hb2, gc_2, hjr, ff_27]) | (refine WK.condT ?_ ?_; focus (simp only [ev_tmp, ev_const, fset_apply, Nat.reduceEqDiff, ↓reduceIte, decide_true, decide_false, f3, f8, hb2, gc_2, hjr, ff_27]; done)) | (refine WK.condF ?_ ?_; focus (simp only [ev_tmp, ev_const, fset_apply, Nat.reduceEqDiff, ↓reduceIte, decide_true, decide_false, f3, f8, hb2, gc_2, hjr, ff_27]; done)))
    (first | refine WK.retNil ⟨Or.inr rfl, _, rfl, ?_, ?_⟩ | refine WK.skipNil ⟨Or.inl rfl, _, rfl, ?_, ?_⟩)
    · exact kk.keep
    · simp only [packed, fset_apply, Nat.reduceEqDiff, ↓reduceIte, List.getD_cons_zero, List.getD_cons_succ, ff_27]
      refine ⟨false, rfl, ⟨fun h => (by cases h), ?_⟩⟩
      rintro ⟨r, q, hE⟩
      have := hno r q hE
      have := hE.hi
      omega
end Go.Proofs.Ytplnndgdklfnfaa
