/- A part of a proof. Its conditions: none. -/
import Derived.Test.YtplnndgdklfnfaaAmLfNullable
import Derived.Test.YtplnndgdklfnfaaAmC
import Derived.Test.YtplnndgdklfnfaaAmD
set_option linter.all false
namespace Go.Proofs.Ytplnndgdklfnfaa
open Go.AM

structure Ed where
  rule : Nat
  at_ : Nat
  to : Nat
def edc (e : Ed) : List Value := [.int .i64 e.rule, .int .i64 e.at_, .int .i64 e.to]

/-- All such steps, of each variable. -/
structure EdgesOf (g : Gram) (ls : List (List Ed)) : Prop where
  len : ls.length = g.vars.length
  mem : ∀ v (h : v < ls.length) e, e ∈ ls[v] ↔ Edg g v e.rule e.at_ e.to
  few : ∀ v (h : v < ls.length), ls[v].length ≤ 6144

theorem nul_nonneg {g : Gram} (hg : InG g) {s : Int} (h : Nul g s) : 0 ≤ s := by
  cases h with
  | mk i h h0 h1 => exact hg.left0 _ (List.getElem_mem h)

/-- One more step is found. -/
theorem mem_step {g : Gram} {ls : List (List Ed)} {i j l u : Nat} (hi : i < g.rules.length) (hl : g.rules[i].left = (l : Int)) (hlt : l < ls.length) (hat : g.rules[i].right[j]? = some (u : Int)) (hpre : ∀ q, q < j → ∀ s, g.rules[i].right[q]? = some s → Nul g s)
    (hmem : ∀ v (h : v < ls.length) e, e ∈ ls[v] ↔ Edg g v e.rule e.at_ e.to ∧ (e.rule < i ∨ e.rule = i ∧ e.at_ < j)) :
    ∀ v (h : v < (ls.set l (ls[l] ++ [⟨i, j, u⟩])).length) e, e ∈ (ls.set l (ls[l] ++ [⟨i, j, u⟩]))[v] ↔ Edg g v e.rule e.at_ e.to ∧ (e.rule < i ∨ e.rule = i ∧ e.at_ < j + 1) := by
  intro v h e
  have hv : v < ls.length := by simpa using h
  have new : ∀ e : Ed, Edg g v e.rule e.at_ e.to → e.rule = i → e.at_ = j → v = l ∧ e = ⟨i, j, u⟩ := by
    rintro ⟨r, a, t⟩ hE rfl rfl
    have h1 := hE.left
    have h2 := hE.hat
    simp only at h1 h2
    rw [hl] at h1
    rw [hat] at h2
    simp only [Option.some.injEq] at h2
    exact ⟨by omega, by congr; omega⟩
  rw [List.getElem_set]
  by_cases hvl : l = v
  · subst hvl
    rw [if_pos rfl, List.mem_append, hmem l hlt e]
    constructor
    · rintro (⟨hE, h⟩ | h)
      · exact ⟨hE, by omega⟩
      · simp at h; subst h
        exact ⟨⟨hi, hl, hat, by omega, hpre⟩, by simp⟩
    · rintro ⟨hE, h⟩
      by_cases h' : e.rule = i ∧ e.at_ = j
      · right; rw [(new e hE h'.1 h'.2).2]; simp
      · exact .inl ⟨hE, by omega⟩
  · rw [if_neg hvl, hmem v hv e]
    refine and_congr_right fun hE => ?_
    constructor
    · intro h; omega
    · intro h
      by_cases h' : e.rule = i ∧ e.at_ = j
      · exact absurd (new e hE h'.1 h'.2).1 (fun e => hvl e.symm)
      · omega

/-- Behind what does not vanish there is none. -/
theorem mem_stop {g : Gram} {ls : List (List Ed)} {i j : Nat} {s : Int} (hat : g.rules[i]?.bind (fun r => r.right[j]?) = some s) (hs : ¬ Nul g s) {j' : Nat} (hj : j' = j + 1 ∨ j' = j ∧ s < 0)
    (hmem : ∀ v (h : v < ls.length) e, e ∈ ls[v] ↔ Edg g v e.rule e.at_ e.to ∧ (e.rule < i ∨ e.rule = i ∧ e.at_ < j')) :
    ∀ v (h : v < ls.length) e, e ∈ ls[v] ↔ Edg g v e.rule e.at_ e.to ∧ e.rule < i + 1 := by
  intro v h e
  rw [hmem v h e]
  refine and_congr_right fun hE => ?_
  constructor
  · omega
  · intro h1
    by_cases h2 : e.rule = i
    · refine .inr ⟨h2, ?_⟩
      apply Classical.byContradiction
      intro h3
      have hi := hE.hi
      rw [List.getElem?_eq_getElem (h2 ▸ hi)] at hat
      simp only [Option.bind_some] at hat
      have e1 : g.rules[e.rule].right[j]? = some s := by simpa [h2] using hat
      by_cases h4 : e.at_ = j
      · have h5 := hE.hat
        simp only [h4] at h5
        rw [e1] at h5
        have h6 := hE.u0
        simp only [Option.some.injEq] at h5
        omega
      · exact hs (hE.nul j (by omega) s e1)
    · omega

set_option maxHeartbeats 4000000 in
theorem edges_gives {v : Value} {g : Gram} {n : Nat} {H : Heap} (hw : WF n H) (hg : RG H v g) (wg : WG g) (ok : RightOK g) :
    Gives Try.prog 44 [v] n H fun v _ H' => ∃ ls ys x, n ≤ x ∧ v = .slice (some ⟨x, 0, none⟩) g.vars.length g.vars.length ∧ LL n H' x 57 60 edc ls ys ∧ EdgesOf g ls := by
  have hg0 := hg
  obtain ⟨pt, pv, pr, rfl, ht, hv, hr⟩ := hg
  refine Gives.of orders ok44 (Nat.le_of_ble_eq_true rfl) ?_
  have hk := Kp.new n H (.cells (gcells pt pv pr g) 25 true)
  have hb := hset_at H n (.cells (gcells pt pv pr g) 25 true)
  have hi := ok.inG
  have hvl : (g.vars.length : Int) ≤ bigN := by have := ok.vars; unfold bigN; omega
-- function 44
  repeat (first | apply WK.seq | apply WK.block | apply WK.skipSeq | apply WK.skipBlock | apply WK.retSeq | apply WK.retBlock | apply WK.exitSeq | apply WK.exitHere | refine WK.exitOn rfl ?_)
  (refine WK.rgn ?_ ?_; kernel_rfl; simp (config := { maxSteps := 1000000 }) only [SS, forall_const, wx, tguard, acallee, top, tval, fput, tor, vsh, vbin, vun, tload, tload2, tload3, tstore, tstore2, tstore3, Go.AM.splice, one, tidx, tidx2, tfa, tfa2, tlen2, tbox, talloc, still, still1, flat1, tmake, tbuild, afill, tbs, tbs2, tap, tap2, tap3, tap4, tsrc, tsrc2, Int.reduceEq, Int.reduceNeg, Nat.reduceGT, Nat.reduceLT, Nat.reduceLeDiff, Nat.reduceEqDiff, ↓reduceIte, reduceCtorEq, Int.reduceToNat, Int.reduceLE, Int.reduceLT, Nat.reduceAdd, Nat.reduceMul, box_cells, box_one, ff_44])
  generalize hset H n (.cells (gcells pt pv pr g) 25 true) = H1 at *
  repeat (first | apply WK.seq | apply WK.block | apply WK.skipSeq | apply WK.skipBlock | apply WK.retSeq | apply WK.retBlock | apply WK.exitSeq | apply WK.exitHere | refine WK.exitOn rfl ?_)
  (refine WK.rgn ?_ ?_; kernel_rfl; simp (config := { maxSteps := 1000000 }) only [SS, forall_const, wx, tguard, acallee, top, tval, fput, tor, vsh, vbin, vun, tload, tload2, tload3, tstore, tstore2, tstore3, Go.AM.splice, one, tidx, tidx2, tfa, tfa2, tlen2, tbox, talloc, still, still1, flat1, tmake, tbuild, afill, tbs, tbs2, tap, tap2, tap3, tap4, tsrc, tsrc2, Int.reduceEq, Int.reduceNeg, Nat.reduceGT, Nat.reduceLT, Nat.reduceLeDiff, Nat.reduceEqDiff, ↓reduceIte, reduceCtorEq, Int.reduceToNat, Int.reduceLE, Int.reduceLT, Nat.reduceAdd, Nat.reduceMul, hb, gc_0, gc_1, gc_2, hvl, ff_44])
  repeat (first | apply WK.seq | apply WK.block | apply WK.skipSeq | apply WK.skipBlock | apply WK.retSeq | apply WK.retBlock | apply WK.exitSeq | apply WK.exitHere | refine WK.exitOn rfl ?_)
  have k1 := Kp.new (n + 1) H1 (.cells (rep g.vars.length [.slice none 0 0]) 57 true)
  have b1 := hset_at H1 (n + 1) (.cells (rep g.vars.length [.slice none 0 0]) 57 true)
  have b0 := (k1.keep n (by omega)).trans hb
  generalize hset H1 (n + 1) (.cells (rep g.vars.length [.slice none 0 0]) 57 true) = H2 at *
  have kk := hk.trans k1
  (refine WK.rgn ?_ ?_; kernel_rfl; simp (config := { maxSteps := 1000000 }) only [SS, forall_const, wx, tguard, acallee, top, tval, fput, tor, vsh, vbin, vun, tload, tload2, tload3, tstore, tstore2, tstore3, Go.AM.splice, one, tidx, tidx2, tfa, tfa2, tlen2, tbox, talloc, still, still1, flat1, tmake, tbuild, afill, tbs, tbs2, tap, tap2, tap3, tap4, tsrc, tsrc2, Int.reduceEq, Int.reduceNeg, Nat.reduceGT, Nat.reduceLT, Nat.reduceLeDiff, Nat.reduceEqDiff, ↓reduceIte, reduceCtorEq, Int.reduceToNat, Int.reduceLE, Int.reduceLT, Nat.reduceAdd, Nat.reduceMul, b0, gc_len, gc_all, ff_44])
  refine AtCall.by (nullable_gives (kk.wf hw) (hg0.mono hw kk) wg ok) ?_
  rintro v n3 H3 k3 ⟨hs, w, hw1, hw2, rfl, hl, hhs, hn⟩
  simp (config := { maxSteps := 1000000 }) only [SS, forall_const, wx, tguard, acallee, top, tval, fput, tor, vsh, vbin, vun, tload, tload2, tload3, tstore, tstore2, tstore3, Go.AM.splice, one, tidx, tidx2, tfa, tfa2, tlen2, tbox, talloc, still, still1, flat1, tmake, tbuild, afill, tbs, tbs2, tap, tap2, tap3, tap4, tsrc, tsrc2, Int.reduceEq, Int.reduceNeg, Nat.reduceGT, Nat.reduceLT, Nat.reduceLeDiff, Nat.reduceEqDiff, ↓reduceIte, reduceCtorEq, Int.reduceToNat, Int.reduceLE, Int.reduceLT, Nat.reduceAdd, Nat.reduceMul, ff_44]
  repeat (first | apply WK.seq | apply WK.block | apply WK.skipSeq | apply WK.skipBlock | apply WK.retSeq | apply WK.retBlock | apply WK.exitSeq | apply WK.exitHere | refine WK.exitOn rfl ?_)
  replace b1 := (k3.keep _ (by omega)).trans b1
  replace b0 := (k3.keep _ (by omega)).trans b0
  have k03 := kk.trans k3
  have hn3 := k3.le
  have wf3 := k03.wf hw
  have L0 := LL.new (m := n3) (ety := 60) (enc := edc) b1
  repeat (first | apply WK.seq | apply WK.block | apply WK.skipSeq | apply WK.skipBlock | apply WK.retSeq | apply WK.retBlock | apply WK.exitSeq | apply WK.exitHere | refine WK.exitOn rfl ?_ | ((first | (refine WK.rgn ?_ ?_; kernel_rfl) | refine AtCall.now ?_); simp (config := { maxSteps := 1000000 }) only [SS, forall_const, wx, tguard, acallee, top, tval, fput, tor, vsh, vbin, vun, tload, tload2, tload3, tstore, tstore2, tstore3, Go.AM.splice, one, tidx, tidx2, tfa, tfa2, tlen2, tbox, talloc, still, still1, flat1, tmake, tbuild, afill, tbs, tbs2, tap, tap2, tap3, tap4, tsrc, tsrc2, Int.reduceEq, Int.reduceNeg, Nat.reduceGT, Nat.reduceLT, Nat.reduceLeDiff, Nat.reduceEqDiff, ↓reduceIte, reduceCtorEq, Int.reduceToNat, Int.reduceLE, Int.reduceLT, Nat.reduceAdd, Nat.reduceMul, b0, gc_2, ff_44]) | (refine WK.condT ?_ ?_; focus (simp only [ev_tmp, ev_const, fset_apply, Nat.reduceEqDiff, ↓reduceIte, decide_true, decide_false, b0, gc_2, ff_44]; done)) | (refine WK.condF ?_ ?_; focus (simp only [ev_tmp, ev_const, fset_apply, Nat.reduceEqDiff, ↓reduceIte, decide_true, decide_false, b0, gc_2, ff_44]; done)))
  refine WK.loop (fun k s => ∃ (i : Nat) (ls : List (List Ed)) (ys : Nat → Nat), Kx (fun z => z = n + 1) n3 H3 s.n s.H ∧ LL n3 s.H (n + 1) 57 60 edc ls ys ∧ s.f 1 = .pointer (some ⟨n, 0, none⟩) ∧ s.f 3 = .slice (some ⟨n + 1, 0, none⟩) g.vars.length g.vars.length ∧ s.f 4 = .slice (some ⟨w, 0, none⟩) g.vars.length g.vars.length ∧
      s.f 16 = .slice pr g.rules.length g.rules.length ∧ s.f 17 = .int .i64 g.rules.length ∧ s.f 18 = .int .i64 (i : Nat) ∧ i ≤ g.rules.length ∧ ls.length = g.vars.length ∧ (∀ v (h : v < ls.length) e, e ∈ ls[v] ↔ Edg g v e.rule e.at_ e.to ∧ e.rule < i) ∧ (∀ v (h : v < ls.length), ls[v].length ≤ i * 24) ∧ k = g.rules.length - i) g.rules.length ?_ ?_
  · exact ⟨0, _, _, Kx.refl _ _ _, L0, rfl, rfl, rfl, rfl, rfl, rfl, Nat.zero_le _, by simp, fun v h e => by simp, fun v h => by simp, rfl⟩
  rintro kk ⟨f, n4, H4⟩ ⟨i, ls, ys, kx, L, f1, f3, f4, f16, f17, f18, hir, hll, hmem, hfew, rfl⟩ ih
  simp only at f1 f3 f4 f16 f17 f18 ih kx L
  by_cases hjr : i < g.rules.length
  · have kk4 : Kp n H n4 H4 := ⟨by have := k03.le; have := kx.le; omega, fun y hy => (kx.keep y (by omega) (by omega)).trans (k03.keep y hy), fun h => kx.wf (k03.wf h)⟩
    have hw4 := kk4.wf hw
    obtain ⟨z, k', cs, ty, own, p, e0, hz, c0, c1, c2, hp⟩ := hr.at hjr
    replace hz := (kk4.keep z (live_lt hw (live_of hz))).trans hz
    have c3 := take3 c0 c1 c2
    have c4 := len3 c2
    have hrw := (wg.right _ (List.getElem_mem hjr)).1
    have hrl := (ok.rule i hjr).len
    subst e0
    obtain ⟨l, hl'⟩ : ∃ l : Nat, g.rules[i].left = l := ⟨g.rules[i].left.toNat, by have := (ok.rule i hjr).left0; omega⟩
    have hlv : l < g.vars.length := by have := (ok.rule i hjr).left1; omega
    repeat (first | apply WK.seq | apply WK.block | apply WK.skipSeq | apply WK.skipBlock | apply WK.retSeq | apply WK.retBlock | apply WK.exitSeq | apply WK.exitHere | refine WK.exitOn rfl ?_ | ((first | (refine WK.rgn ?_ ?_; kernel_rfl) | refine AtCall.now ?_); simp (config := { maxSteps := 1000000 }) only [SS, forall_const, wx, tguard, acallee, top, tval, fput, tor, vsh, vbin, vun, tload, tload2, tload3, tstore, tstore2, tstore3, Go.AM.splice, one, tidx, tidx2, tfa, tfa2, tlen2, tbox, talloc, still, still1, flat1, tmake, tbuild, afill, tbs, tbs2, tap, tap2, tap3, tap4, tsrc, tsrc2, Int.reduceEq, Int.reduceNeg, Nat.reduceGT, Nat.reduceLT, Nat.reduceLeDiff, Nat.reduceEqDiff, ↓reduceIte, reduceCtorEq, Int.reduceToNat, Int.reduceLE, Int.reduceLT, Nat.reduceAdd, Nat.reduceMul, f16, f17, f18, hjr, hz, c3, c4, ff_44]) | (refine WK.condT ?_ ?_; focus (simp only [ev_tmp, ev_const, fset_apply, Nat.reduceEqDiff, ↓reduceIte, decide_true, decide_false, f16, f17, f18, hjr, hz, c3, c4, ff_44]; done)) | (refine WK.condF ?_ ?_; focus (simp only [ev_tmp, ev_const, fset_apply, Nat.reduceEqDiff, ↓reduceIte, decide_true, decide_false, f16, f17, f18, hjr, hz, c3, c4, ff_44]; done)))
    rw [hl']
    have kr := Kp.new n4 H4 (.cells [.int .i64 l, .slice p g.rules[i].right.length g.rules[i].right.length, .float .f64 g.rules[i].weight] 48 true)
    have hN := hset_at H4 n4 (.cells [.int .i64 l, .slice p g.rules[i].right.length g.rules[i].right.length, .float .f64 g.rules[i].weight] 48 true)
    have hn4 := kx.le
    have L' := L.kp hw4 kr
    have kx' := kx.trans kr.kx
    have ny : ∀ v (h : v < ls.length), ls[v] ≠ [] → ys v ≠ n4 := fun v h hn => by have := L.lty hw4 h hn; omega
    refine WK.loop (fun k s => ∃ (j : Nat) (ls : List (List Ed)) (ys : Nat → Nat), Kx (fun z => z = n + 1) n3 H3 s.n s.H ∧ LL n3 s.H (n + 1) 57 60 edc ls ys ∧ s.H n4 = .cells [.int .i64 l, .slice p g.rules[i].right.length g.rules[i].right.length, .float .f64 g.rules[i].weight] 48 true ∧ n4 < s.n ∧
        (∀ v (h : v < ls.length), ls[v] ≠ [] → ys v ≠ n4) ∧ s.f 1 = .pointer (some ⟨n, 0, none⟩) ∧ s.f 3 = .slice (some ⟨n + 1, 0, none⟩) g.vars.length g.vars.length ∧ s.f 4 = .slice (some ⟨w, 0, none⟩) g.vars.length g.vars.length ∧
        s.f 16 = .slice (some ⟨z, k', none⟩) g.rules.length g.rules.length ∧ s.f 17 = .int .i64 g.rules.length ∧ s.f 18 = .int .i64 (i : Nat) ∧ s.f 5 = .int .i64 (i : Nat) ∧ s.f 6 = .pointer (some ⟨n4, 0, none⟩) ∧ s.f 24 = .slice p g.rules[i].right.length g.rules[i].right.length ∧ s.f 25 = .int .i64 g.rules[i].right.length ∧
        s.f 26 = .int .i64 (j : Nat) ∧ j ≤ g.rules[i].right.length ∧ ls.length = g.vars.length ∧ (∀ v (h : v < ls.length) e, e ∈ ls[v] ↔ Edg g v e.rule e.at_ e.to ∧ (e.rule < i ∨ e.rule = i ∧ e.at_ < j)) ∧ (∀ v (h : v < ls.length), ls[v].length ≤ i * 24 + j) ∧
        (∀ q, q < j → ∀ s, g.rules[i].right[q]? = some s → Nul g s) ∧ k = g.rules[i].right.length - j) g.rules[i].right.length ?_ ?_
    · exact ⟨0, ls, ys, kx', L', hN, Nat.lt_succ_self _, ny, f1, f3, f4, f16, f17, f18, rfl, rfl, rfl, rfl, rfl, Nat.zero_le _, hll, fun v h e => by rw [hmem v h e]; simp, fun v h => hfew v h, (fun q hq => by omega), rfl⟩
    clear L L' hN ny hmem hfew hll f1 f3 f4 f16 f17 f18 kx kx'
    rintro kk ⟨f, n5, H5⟩ ⟨j, ls, ys, kx, L, hN, hn45, ny, f1, f3, f4, f16, f17, f18, f5, f6, f24, f25, f26, hj, hll, hmem, hfew, hpre, rfl⟩ ih2
    simp only at f1 f3 f4 f16 f17 f18 f5 f6 f24 f25 f26 ih2 kx L hN hn45
    have kk5 : Kp n H n5 H5 := ⟨by have := k03.le; omega, fun y hy => (kx.keep y (by omega) (by omega)).trans (k03.keep y hy), fun h => kx.wf (k03.wf h)⟩
    have hp5 := hp.mono hw kk5
    have hw5 := kk5.wf hw
    have few' : ∀ v (h : v < ls.length), ls[v].length ≤ (i + 1) * 24 := fun v h => by have := hfew v h; omega
    by_cases hjl : j < g.rules[i].right.length
    · obtain ⟨z2, kz, ds, tz, oz, e0, hz2, e⟩ := hp5.at hjl
      subst e0
      repeat (first | apply WK.seq | apply WK.block | apply WK.skipSeq | apply WK.skipBlock | apply WK.retSeq | apply WK.retBlock | apply WK.exitSeq | apply WK.exitHere | refine WK.exitOn rfl ?_ | ((first | (refine WK.rgn ?_ ?_; kernel_rfl) | refine AtCall.now ?_); simp (config := { maxSteps := 1000000 }) only [SS, forall_const, wx, tguard, acallee, top, tval, fput, tor, vsh, vbin, vun, tload, tload2, tload3, tstore, tstore2, tstore3, Go.AM.splice, one, tidx, tidx2, tfa, tfa2, tlen2, tbox, talloc, still, still1, flat1, tmake, tbuild, afill, tbs, tbs2, tap, tap2, tap3, tap4, tsrc, tsrc2, Int.reduceEq, Int.reduceNeg, Nat.reduceGT, Nat.reduceLT, Nat.reduceLeDiff, Nat.reduceEqDiff, ↓reduceIte, reduceCtorEq, Int.reduceToNat, Int.reduceLE, Int.reduceLT, Nat.reduceAdd, Nat.reduceMul, f24, f25, f26, hjl, hz2, e, ff_44]) | (refine WK.condT ?_ ?_; focus (simp only [ev_tmp, ev_const, fset_apply, Nat.reduceEqDiff, ↓reduceIte, decide_true, decide_false, f24, f25, f26, hjl, hz2, e, ff_44]; done)) | (refine WK.condF ?_ ?_; focus (simp only [ev_tmp, ev_const, fset_apply, Nat.reduceEqDiff, ↓reduceIte, decide_true, decide_false, f24, f25, f26, hjl, hz2, e, ff_44]; done)))
      refine AtCall.by (isVar_gives _ _ _) ?_
      rintro v n6 H6 hk6 ⟨rfl, rfl, rfl⟩
      by_cases h0 : 0 ≤ g.rules[i].right[j]
      · obtain ⟨u, hu⟩ : ∃ u : Nat, g.rules[i].right[j] = u := ⟨g.rules[i].right[j].toNat, by omega⟩
        have hat : g.rules[i].right[j]? = some (u : Int) := by rw [List.getElem?_eq_getElem hjl, hu]
        have hul : u < g.vars.length := by have := ((ok.rule i hjr).sym _ (List.getElem_mem hjl)).1; omega
        simp (config := { maxSteps := 1000000 }) only [SS, forall_const, wx, tguard, acallee, top, tval, fput, tor, vsh, vbin, vun, tload, tload2, tload3, tstore, tstore2, tstore3, Go.AM.splice, one, tidx, tidx2, tfa, tfa2, tlen2, tbox, talloc, still, still1, flat1, tmake, tbuild, afill, tbs, tbs2, tap, tap2, tap3, tap4, tsrc, tsrc2, Int.reduceEq, Int.reduceNeg, Nat.reduceGT, Nat.reduceLT, Nat.reduceLeDiff, Nat.reduceEqDiff, ↓reduceIte, reduceCtorEq, Int.reduceToNat, Int.reduceLE, Int.reduceLT, Nat.reduceAdd, Nat.reduceMul, h0, ff_44]
        repeat (first | apply WK.seq | apply WK.block | apply WK.skipSeq | apply WK.skipBlock | apply WK.retSeq | apply WK.retBlock | apply WK.exitSeq | apply WK.exitHere | refine WK.exitOn rfl ?_)
        first | (refine WK.condT ?_ ?_; focus (simp only [ev_tmp, ev_const, fset_apply, Nat.reduceEqDiff, ↓reduceIte, decide_true, decide_false]; done)) | (refine WK.condF ?_ ?_; focus (simp only [ev_tmp, ev_const, fset_apply, Nat.reduceEqDiff, ↓reduceIte, decide_true, decide_false]; done))
        repeat (first | apply WK.seq | apply WK.block | apply WK.skipSeq | apply WK.skipBlock | apply WK.retSeq | apply WK.retBlock | apply WK.exitSeq | apply WK.exitHere | refine WK.exitOn rfl ?_)
        have hll' : l < ls.length := by omega
        have hlv' : l + 1 ≤ ls.length := by omega
        have hx6 : ∀ o1 o2, hset (hset H6 n6 o1) (n6 + 1) o2 (n + 1) = .cells (llcells ys ls) 57 true := fun o1 o2 => (hset_ne _ _ _ (by omega)).trans ((hset_ne _ _ _ (by omega)).trans L.hx)
        have hwr := wg.rules
        unfold maxL at hwr hrw
        refine WK.cut (fun s => Kx (fun z => z = n + 1) n3 H3 s.n s.H ∧ LL n3 s.H (n + 1) 57 60 edc (ls.set l (ls[l] ++ [⟨i, j, u⟩])) (upd ys l (n6 + 1)) ∧ s.H n4 = .cells [.int .i64 l, .slice (some ⟨z2, kz, none⟩) g.rules[i].right.length g.rules[i].right.length, .float .f64 g.rules[i].weight] 48 true ∧ n6 < s.n ∧
            s.f 1 = .pointer (some ⟨n, 0, none⟩) ∧ s.f 3 = .slice (some ⟨n + 1, 0, none⟩) g.vars.length g.vars.length ∧ s.f 4 = .slice (some ⟨w, 0, none⟩) g.vars.length g.vars.length ∧ s.f 8 = .int .i64 (u : Nat) ∧
            s.f 16 = .slice (some ⟨z, k', none⟩) g.rules.length g.rules.length ∧ s.f 17 = .int .i64 g.rules.length ∧ s.f 18 = .int .i64 (i : Nat) ∧ s.f 5 = .int .i64 (i : Nat) ∧ s.f 6 = .pointer (some ⟨n4, 0, none⟩) ∧ s.f 24 = .slice (some ⟨z2, kz, none⟩) g.rules[i].right.length g.rules[i].right.length ∧ s.f 25 = .int .i64 g.rules[i].right.length ∧
            s.f 26 = .int .i64 (j : Nat)) ?_ ?_
        · by_cases hnil : ls[l] = []
          · have hc0 := L.at hll'
            rw [hnil, List.length_nil, sl_zero] at hc0
            (refine WK.rgl [(2, 13)] (by kernel_rfl) ?_; simp (config := { maxSteps := 1000000 }) only [wl, wl1_false, wl1_true, wl2_none, wl2_some, wl3_some, wl3_none, SS, forall_const, wx, tguard, acallee, top, tval, fput, tor, vsh, vbin, vun, tload, tload2, tload3, tstore, tstore2, tstore3, Go.AM.splice, one, tidx, tidx2, tfa, tfa2, tlen2, tbox, talloc, still, still1, flat1, tmake, tbuild, afill, tbs, tbs2, tap, tap2, tap3, tap4, tsrc, tsrc2, Int.reduceEq, Int.reduceNeg, Nat.reduceGT, Nat.reduceLT, Nat.reduceLeDiff, Nat.reduceEqDiff, ↓reduceIte, reduceCtorEq, Int.reduceToNat, Int.reduceLE, Int.reduceLT, Nat.reduceAdd, Nat.reduceMul, f3, f5, f6, hN, L.hx, hlv, hc0, hx6, hu, llcells_length, hlv', ebs_57_1, ebd_60, eapp_57_57, isz_57, ff_44])
            refine ⟨light_cons rfl rfl lapart_rr light_nil, ?_⟩
            refine WK.skipNil ⟨rfl, ?_, ?_, ?_, by show n6 < n6 + 1 + 1; omega, f1, f3, f4, ?_, f16, f17, f18, f5, f6, f24, f25, f26⟩
            · exact ((kx.trans (Kp.new n6 H6 _).kx).trans (Kp.new (n6 + 1) _ _).kx).set _ (.inl rfl) (by omega)
            · refine L.put (fun _ => ?_) (fun _ => by omega) (by omega) ?_ (fun v hv hn hv' => ?_) (fun v hv hn hv' => ?_)
              · rw [hnil]
                exact (hset_ne _ _ _ (by omega)).trans (hset_at _ _ _)
              · rw [hnil]
                exact hset_at _ _ _
              · have := L.lty hw5 hv hv'; omega
              · have h1 := L.lty hw5 hv hv'
                have h2 := L.ne v hv hv'
                exact (hset_ne _ _ _ h2).trans ((hset_ne _ _ _ (by omega)).trans (hset_ne _ _ _ (by omega)))
            · exact (hset_ne _ _ _ (by omega)).trans ((hset_ne _ _ _ (by omega)).trans ((hset_ne _ _ _ (by omega)).trans hN))
            · simp only [packed, fset_apply, Nat.reduceEqDiff, ↓reduceIte, List.getD_cons_zero, List.getD_cons_succ, hu, ff_44]
          · have hc0 := L.at hll'
            rw [sl_pos (by simpa using hnil)] at hc0
            have hyl := L.hy l hll' hnil
            have hyl1 := L.lty hw5 hll' hnil
            have hyl2 := L.fy l hll' hnil
            have hyl3 := L.ne l hll' hnil
            have hy6 : ∀ o, hset H6 n6 o (ys l) = _ := fun o => (hset_ne _ _ _ (by omega)).trans hyl
            have hfl : (ls[l].flatMap edc).length = ls[l].length * 3 := by
              rw [List.length_flatMap]
              simp only [edc, List.length_cons, List.length_nil]
              rw [List.map_const', List.sum_replicate_nat]
            have hft : (ls[l].flatMap edc).take (ls[l].length * 3) = ls[l].flatMap edc := List.take_of_length_le (by omega)
            have hx7 : ∀ o1 o2 o3, hset (hset (hset H6 n6 o1) (ys l) o2) (n6 + 1) o3 (n + 1) = .cells (llcells ys ls) 57 true := fun o1 o2 o3 => (hset_ne _ _ _ (by omega)).trans ((hset_ne _ _ _ (Ne.symm hyl3)).trans ((hset_ne _ _ _ (by omega)).trans L.hx))
            have hct : [n6].contains (ys l) = false := by simp; omega
            have hbg : ls[l].length + 1 ≤ bigN := by have := few' l hll'; have := ok.rules; unfold bigN; omega
            (refine WK.rgl [(2, 13)] (by kernel_rfl) ?_; simp (config := { maxSteps := 1000000 }) only [wl, wl1_false, wl1_true, wl2_none, wl2_some, wl3_some, wl3_none, SS, forall_const, wx, tguard, acallee, top, tval, fput, tor, vsh, vbin, vun, tload, tload2, tload3, tstore, tstore2, tstore3, Go.AM.splice, one, tidx, tidx2, tfa, tfa2, tlen2, tbox, talloc, still, still1, flat1, tmake, tbuild, afill, tbs, tbs2, tap, tap2, tap3, tap4, tsrc, tsrc2, Int.reduceEq, Int.reduceNeg, Nat.reduceGT, Nat.reduceLT, Nat.reduceLeDiff, Nat.reduceEqDiff, ↓reduceIte, reduceCtorEq, Int.reduceToNat, Int.reduceLE, Int.reduceLT, Nat.reduceAdd, Nat.reduceMul, f3, f5, f6, hN, L.hx, hlv, hc0, hx7, hy6, hu, hfl, hft, hct, hbg, List.drop_zero, llcells_length, hlv', ebs_57_1, ebd_60, eapp_57_57, isz_57, ff_44])
            refine ⟨light_cons rfl rfl (lapart_rw ?_) light_nil, ?_⟩
            · have := ny l hll' hnil
              simp [this]
            have hlen : ls[l].length + 1 = (ls[l] ++ [Ed.mk i j u]).length := by simp
            refine WK.skipNil ⟨rfl, ?_, ?_, ?_, by show n6 < n6 + 1 + 1; omega, f1, f3, f4, ?_, f16, f17, f18, f5, f6, f24, f25, f26⟩
            · exact (((kx.trans (Kp.new n6 H6 _).kx).set _ (.inr hyl2) (by omega)).trans (Kp.new (n6 + 1) _ _).kx).set _ (.inl rfl) (by omega)
            · refine L.put (fun _ => ?_) (fun _ => by omega) (by omega) ?_ (fun v hv hn hv' => ?_) (fun v hv hn hv' => ?_)
              · refine (hset_ne _ _ _ (by omega)).trans ((hset_at _ _ _).trans ?_)
                rw [List.flatMap_append]
                rfl
              · rw [sl_pos (by simp)]
                refine (hset_at _ _ _).trans ?_
                rw [hlen]
              · have := L.lty hw5 hv hv'; omega
              · have h1 := L.lty hw5 hv hv'
                have h2 := L.ne v hv hv'
                have h3 : ys v ≠ ys l := fun e => hn (L.inj v l hv hll' hv' hnil e)
                exact (hset_ne _ _ _ h2).trans ((hset_ne _ _ _ (by omega)).trans ((hset_ne _ _ _ h3).trans (hset_ne _ _ _ (by omega))))
            · exact (hset_ne _ _ _ (by omega)).trans ((hset_ne _ _ _ (by omega)).trans ((hset_ne _ _ _ (Ne.symm (ny l hll' hnil))).trans ((hset_ne _ _ _ (by omega)).trans hN)))
            · simp only [packed, fset_apply, Nat.reduceEqDiff, ↓reduceIte, List.getD_cons_zero, List.getD_cons_succ, hu, ff_44]
        · rintro ⟨f, n7, H7⟩ ⟨kx7, L7, hN7, hn7, f1, f3, f4, f8, f16, f17, f18, f5, f6, f24, f25, f26⟩
          simp only at f1 f3 f4 f16 f17 f18 f5 f6 f24 f25 f26 f8 kx7 L7 hN7 hn7
          have hw7 := (kx7.keep w hw2 (by omega)).trans hhs
          have hul2 : u < hs.length := by omega
          have hgu : (hs.map Value.bool)[u]? = some (.bool hs[u]) := by rw [List.getElem?_map, List.getElem?_eq_getElem hul2]; rfl
          have hhold : hold hs u ↔ hs[u] = true := by simp [hold, hul2]
          have hnu := hn u
          rw [hhold] at hnu
          have hll7 : (ls.set l (ls[l] ++ [⟨i, j, u⟩])).length = g.vars.length := by rw [List.length_set]; exact hll
          have hmem7 := mem_step hjr hl' hll' hat hpre hmem
          have hfew7 : ∀ v (h : v < (ls.set l (ls[l] ++ [⟨i, j, u⟩])).length), (ls.set l (ls[l] ++ [⟨i, j, u⟩]))[v].length ≤ i * 24 + (j + 1) := by
            intro v h
            rw [List.getElem_set]
            split
            · have := hfew l hll'; simp; omega
            · have := hfew v (by simpa using h); omega
          have hny7 : ∀ v (h : v < (ls.set l (ls[l] ++ [⟨i, j, u⟩])).length), (ls.set l (ls[l] ++ [⟨i, j, u⟩]))[v] ≠ [] → upd ys l (n6 + 1) v ≠ n4 := by
            intro v h hn'
            by_cases e : v = l
            · subst e; rw [upd_at]; omega
            · rw [upd_ne _ _ _ e]
              rw [List.getElem_set_ne (Ne.symm e)] at hn'
              exact ny v (by simpa using h) hn'
          cases hb7 : hs[u]
          · rw [hb7] at hgu hnu
            repeat (first | apply WK.seq | apply WK.block | apply WK.skipSeq | apply WK.skipBlock | apply WK.retSeq | apply WK.retBlock | apply WK.exitSeq | apply WK.exitHere | refine WK.exitOn rfl ?_ | ((first | (refine WK.rgn ?_ ?_; kernel_rfl) | refine AtCall.now ?_); simp (config := { maxSteps := 1000000 }) only [SS, forall_const, wx, tguard, acallee, top, tval, fput, tor, vsh, vbin, vun, tload, tload2, tload3, tstore, tstore2, tstore3, Go.AM.splice, one, tidx, tidx2, tfa, tfa2, tlen2, tbox, talloc, still, still1, flat1, tmake, tbuild, afill, tbs, tbs2, tap, tap2, tap3, tap4, tsrc, tsrc2, Int.reduceEq, Int.reduceNeg, Nat.reduceGT, Nat.reduceLT, Nat.reduceLeDiff, Nat.reduceEqDiff, ↓reduceIte, reduceCtorEq, Int.reduceToNat, Int.reduceLE, Int.reduceLT, Nat.reduceAdd, Nat.reduceMul, f4, f8, hul, hw7, hgu, f18, ff_44]) | (refine WK.condT ?_ ?_; focus (simp only [ev_tmp, ev_const, fset_apply, Nat.reduceEqDiff, ↓reduceIte, decide_true, decide_false, f4, f8, hul, hw7, hgu, f18, ff_44]; done)) | (refine WK.condF ?_ ?_; focus (simp only [ev_tmp, ev_const, fset_apply, Nat.reduceEqDiff, ↓reduceIte, decide_true, decide_false, f4, f8, hul, hw7, hgu, f18, ff_44]; done)))
            refine ih (g.rules.length - (i + 1)) (by omega) _ ⟨i + 1, _, _, kx7, L7, f1, f3, f4, f16, f17, ?_, hjr, hll7, mem_stop (i := i) (j := j) (s := u) (by rw [List.getElem?_eq_getElem hjr]; exact hat) (fun h => by simpa using hnu.2 h) (.inl rfl) hmem7, fun v h => by have := hfew7 v h; omega, rfl⟩
            simp only [packed, fset_apply, Nat.reduceEqDiff, ↓reduceIte, List.getD_cons_zero, List.getD_cons_succ, ff_44]
            rw [wrap_in (by omega) (by omega)]; rfl
          · rw [hb7] at hgu hnu
            repeat (first | apply WK.seq | apply WK.block | apply WK.skipSeq | apply WK.skipBlock | apply WK.retSeq | apply WK.retBlock | apply WK.exitSeq | apply WK.exitHere | refine WK.exitOn rfl ?_ | ((first | (refine WK.rgn ?_ ?_; kernel_rfl) | refine AtCall.now ?_); simp (config := { maxSteps := 1000000 }) only [SS, forall_const, wx, tguard, acallee, top, tval, fput, tor, vsh, vbin, vun, tload, tload2, tload3, tstore, tstore2, tstore3, Go.AM.splice, one, tidx, tidx2, tfa, tfa2, tlen2, tbox, talloc, still, still1, flat1, tmake, tbuild, afill, tbs, tbs2, tap, tap2, tap3, tap4, tsrc, tsrc2, Int.reduceEq, Int.reduceNeg, Nat.reduceGT, Nat.reduceLT, Nat.reduceLeDiff, Nat.reduceEqDiff, ↓reduceIte, reduceCtorEq, Int.reduceToNat, Int.reduceLE, Int.reduceLT, Nat.reduceAdd, Nat.reduceMul, f4, f8, hul, hw7, hgu, f26, ff_44]) | (refine WK.condT ?_ ?_; focus (simp only [ev_tmp, ev_const, fset_apply, Nat.reduceEqDiff, ↓reduceIte, decide_true, decide_false, f4, f8, hul, hw7, hgu, f26, ff_44]; done)) | (refine WK.condF ?_ ?_; focus (simp only [ev_tmp, ev_const, fset_apply, Nat.reduceEqDiff, ↓reduceIte, decide_true, decide_false, f4, f8, hul, hw7, hgu, f26, ff_44]; done)))
            refine ih2 (g.rules[i].right.length - (j + 1)) (by omega) _ ⟨j + 1, _, _, kx7, L7, hN7, by show n4 < n7; omega, hny7, f1, f3, f4, f16, f17, f18, f5, f6, f24, f25, ?_, hjl, hll7, hmem7, hfew7, fun q hq s hs' => ?_, rfl⟩
            · simp only [packed, fset_apply, Nat.reduceEqDiff, ↓reduceIte, List.getD_cons_zero, List.getD_cons_succ, ff_44]
              rw [wrap_in (by omega) (by omega)]; rfl
            · rcases Nat.lt_or_ge q j with h1 | h1
              · exact hpre q h1 s hs'
              · have : q = j := by omega
                subst this
                rw [hat] at hs'
                cases hs'
                exact hnu.1 rfl
      · simp (config := { maxSteps := 1000000 }) only [SS, forall_const, wx, tguard, acallee, top, tval, fput, tor, vsh, vbin, vun, tload, tload2, tload3, tstore, tstore2, tstore3, Go.AM.splice, one, tidx, tidx2, tfa, tfa2, tlen2, tbox, talloc, still, still1, flat1, tmake, tbuild, afill, tbs, tbs2, tap, tap2, tap3, tap4, tsrc, tsrc2, Int.reduceEq, Int.reduceNeg, Nat.reduceGT, Nat.reduceLT, Nat.reduceLeDiff, Nat.reduceEqDiff, ↓reduceIte, reduceCtorEq, Int.reduceToNat, Int.reduceLE, Int.reduceLT, Nat.reduceAdd, Nat.reduceMul, h0, ff_44]
        repeat (first | apply WK.seq | apply WK.block | apply WK.skipSeq | apply WK.skipBlock | apply WK.retSeq | apply WK.retBlock | apply WK.exitSeq | apply WK.exitHere | refine WK.exitOn rfl ?_ | ((first | (refine WK.rgn ?_ ?_; kernel_rfl) | refine AtCall.now ?_); simp (config := { maxSteps := 1000000 }) only [SS, forall_const, wx, tguard, acallee, top, tval, fput, tor, vsh, vbin, vun, tload, tload2, tload3, tstore, tstore2, tstore3, Go.AM.splice, one, tidx, tidx2, tfa, tfa2, tlen2, tbox, talloc, still, still1, flat1, tmake, tbuild, afill, tbs, tbs2, tap, tap2, tap3, tap4, tsrc, tsrc2, Int.reduceEq, Int.reduceNeg, Nat.reduceGT, Nat.reduceLT, Nat.reduceLeDiff, Nat.reduceEqDiff, ↓reduceIte, reduceCtorEq, Int.reduceToNat, Int.reduceLE, Int.reduceLT, Nat.reduceAdd, Nat.reduceMul, f18, ff_44]) | (refine WK.condT ?_ ?_; focus (simp only [ev_tmp, ev_const, fset_apply, Nat.reduceEqDiff, ↓reduceIte, decide_true, decide_false, f18, ff_44]; done)) | (refine WK.condF ?_ ?_; focus (simp only [ev_tmp, ev_const, fset_apply, Nat.reduceEqDiff, ↓reduceIte, decide_true, decide_false, f18, ff_44]; done)))
        have hat : g.rules[i]?.bind (fun r => r.right[j]?) = some g.rules[i].right[j] := by rw [List.getElem?_eq_getElem hjr]; exact List.getElem?_eq_getElem hjl
        refine ih (g.rules.length - (i + 1)) (by omega) _ ⟨i + 1, _, _, kx, L, f1, f3, f4, f16, f17, ?_, hjr, hll, mem_stop hat (fun h => h0 (nul_nonneg hi h)) (.inr ⟨rfl, by omega⟩) hmem, fun v h => by have := hfew v h; omega, rfl⟩
        simp only [packed, fset_apply, Nat.reduceEqDiff, ↓reduceIte, List.getD_cons_zero, List.getD_cons_succ, ff_44]
        have := wg.rules; unfold maxL at this
        rw [wrap_in (by omega) (by omega)]; rfl
    · repeat (first | apply WK.seq | apply WK.block | apply WK.skipSeq | apply WK.skipBlock | apply WK.retSeq | apply WK.retBlock | apply WK.exitSeq | apply WK.exitHere | refine WK.exitOn rfl ?_ | ((first | (refine WK.rgn ?_ ?_; kernel_rfl) | refine AtCall.now ?_); simp (config := { maxSteps := 1000000 }) only [SS, forall_const, wx, tguard, acallee, top, tval, fput, tor, vsh, vbin, vun, tload, tload2, tload3, tstore, tstore2, tstore3, Go.AM.splice, one, tidx, tidx2, tfa, tfa2, tlen2, tbox, talloc, still, still1, flat1, tmake, tbuild, afill, tbs, tbs2, tap, tap2, tap3, tap4, tsrc, tsrc2, Int.reduceEq, Int.reduceNeg, Nat.reduceGT, Nat.reduceLT, Nat.reduceLeDiff, Nat.reduceEqDiff, ↓reduceIte, reduceCtorEq, Int.reduceToNat, Int.reduceLE, Int.reduceLT, Nat.reduceAdd, Nat.reduceMul, f24, f25, f26, hjl, f18, ff_44]) | (refine WK.condT ?_ ?_; focus (simp only [ev_tmp, ev_const, fset_apply, Nat.reduceEqDiff, ↓reduceIte, decide_true, decide_false, f24, f25, f26, hjl, f18, ff_44]; done)) | (refine WK.condF ?_ ?_; focus (simp only [ev_tmp, ev_const, fset_apply, Nat.reduceEqDiff, ↓reduceIte, decide_true, decide_false, f24, f25, f26, hjl, f18, ff_44]; done)))
      refine ih (g.rules.length - (i + 1)) (by omega) _ ⟨i + 1, ls, ys, kx, L, f1, f3, f4, f16, f17, ?_, hjr, hll, fun v h e => ?_, few', rfl⟩
      · simp only [packed, fset_apply, Nat.reduceEqDiff, ↓reduceIte, List.getD_cons_zero, List.getD_cons_succ, ff_44]
        have := wg.rules; unfold maxL at this
        rw [wrap_in (by omega) (by omega)]; rfl
      · rw [hmem v h e]
        refine and_congr_right fun hE => ?_
        constructor
        · rintro (h | ⟨h, _⟩) <;> omega
        · intro h
          rcases Nat.lt_or_ge e.rule i with h1 | h1
          · exact .inl h1
          · have h2 : e.rule = i := by omega
            refine .inr ⟨h2, ?_⟩
            have := hE.hat
            simp only [h2] at this
            have := (List.getElem?_eq_some_iff.1 this).1
            omega
  · repeat (first | apply WK.seq | apply WK.block | apply WK.skipSeq | apply WK.skipBlock | apply WK.retSeq | apply WK.retBlock | apply WK.exitSeq | apply WK.exitHere | refine WK.exitOn rfl ?_ | ((first | (refine WK.rgn ?_ ?_; kernel_rfl) | refine AtCall.now ?_); simp (config := { maxSteps := 1000000 }) only [SS, forall_const, wx, tguard, acallee, top, tval, fput, tor, vsh, vbin, vun, tload, tload2, tload3, tstore, tstore2, tstore3, Go.AM.splice, one, tidx, tidx2, tfa, tfa2, tlen2, tbox, talloc, still, still1, flat1, tmake, tbuild, afill, tbs, tbs2, tap, tap2, tap3, tap4, tsrc, tsrc2, Int.reduceEq, Int.reduceNeg, Nat.reduceGT, Nat.reduceLT, Nat.reduceLeDiff, Nat.reduceEqDiff, ↓reduceIte, reduceCtorEq, Int.reduceToNat, Int.reduceLE, Int.reduceLT, Nat.reduceAdd, Nat.reduceMul, f16, f17, f18, hjr, ff_44]) | (refine WK.condT ?_ ?_; focus (simp only [ev_tmp, ev_const, fset_apply, Nat.reduceEqDiff, ↓reduceIte, decide_true, decide_false, f16, f17, f18, hjr, ff_44]; done)) | (refine WK.condF ?_ ?_; focus (simp only [ev_tmp, ev_const, fset_apply, Nat.reduceEqDiff, ↓reduceIte, decide_true, decide_false, f16, f17, f18, hjr, ff_44]; done)))
    (first | refine WK.retNil ⟨Or.inr rfl, _, rfl, ?_, ?_⟩ | refine WK.skipNil ⟨Or.inl rfl, _, rfl, ?_, ?_⟩)
    · exact fun y hy => (kx.keep y (by omega) (by omega)).trans (k03.keep y hy)
    · simp only [packed, fset_apply, Nat.reduceEqDiff, ↓reduceIte, List.getD_cons_zero, List.getD_cons_succ, f3, ff_44]
      refine ⟨ls, ys, n + 1, by omega, rfl, ⟨L.hx, L.hy, L.inj, fun v h hn => by have := L.fy v h hn; omega, L.ne⟩, hll, fun v h e => ?_, fun v h => ?_⟩
      · rw [hmem v h e]
        exact ⟨fun h => h.1, fun h => ⟨h, by have := h.hi; omega⟩⟩
      · have := hfew v h; have := ok.rules; omega
end Go.Proofs.Ytplnndgdklfnfaa
