/- A part of a proof. Its conditions: none. -/
import Derived.Test.YtfbdababcdfjfaaAmNLfRight
import Derived.Test.YtfbdababcdfjfaaAmD
import Derived.Test.YtfbdababcdfjfaaAmNAtCmp
set_option linter.all false
namespace Go.Proofs.Ytfbdababcdfjfaa
open Go.AM
set_option maxRecDepth 100000
theorem half_w {i j : Nat} (h : i + j < 9223372036854775808) : IntKind.i64.wrap ((i : Int) + (j : Int)) = ((i + j : Nat) : Int) := by rw [wrap_in (by omega) (by omega)]; rfl
theorem half_u {i : Nat} (h : i < 9223372036854775808) : IntKind.u64.wrap (i : Int) = (i : Int) := by
  simp only [IntKind.wrap, IntKind.signed, IntKind.bits]
  simp
  omega
theorem half_d (i : Nat) : (i : Int).fdiv (2 ^ (min 1 (IntKind.bits .u64))) = ((i / 2 : Nat) : Int) := by
  have h : min 1 (IntKind.bits .u64) = 1 := rfl
  rw [h, Int.fdiv_eq_ediv_of_nonneg _ (by decide)]
  simp
theorem half_i {i : Nat} (h : i < 9223372036854775808) : IntKind.i64.wrap (i : Int) = (i : Int) := wrap_in (by omega) (by omega)
theorem search_gives {F l n : Nat} {H : Heap} {captured : List Value} (q : Nat → Bool) (hl : l ≤ 4294967296)
    (hF : ∀ i n1 H1, i < l → Kp n H n1 H1 → Gives Try.prog F (.int .i64 (i : Nat) :: captured) n1 H1 fun v n' H' => v = .bool (q i) ∧ n' = n1 ∧ H' = H1) :
    Gives Try.prog 67 [.int .i64 (l : Nat), .func (.func F) #[] captured.toArray] n H fun v n' H' => ∃ k : Nat, v = .int .i64 (k : Nat) ∧ n' = n ∧ H' = H ∧ k ≤ l ∧ (∀ p, k = p + 1 → q p = false) ∧ (k < l → q k = true) := by
  refine Gives.of orders ok67 (Nat.le_of_ble_eq_true rfl) ?_
  repeat (first | apply WK.seq | apply WK.block | apply WK.skipSeq | apply WK.skipBlock | apply WK.retSeq | apply WK.retBlock | apply WK.exitSeq | apply WK.exitHere | refine WK.exitOn rfl ?_ | ((first | (refine WK.rgn ?_ ?_; kernel_rfl) | refine AtCall.now ?_); simp (config := { maxSteps := 1000000 }) only [SS, forall_const, wx, tguard, acallee, top, tval, fput, tor, vsh, vbin, vconv, vun, Int.reduceEq, Int.reduceNeg, Nat.reduceGT, Nat.reduceLT, Nat.reduceLeDiff, Nat.reduceEqDiff, ↓reduceIte, reduceCtorEq, Int.reduceToNat, Int.reduceLE, Int.reduceLT, Nat.reduceAdd, Nat.reduceMul, ff_67]) | (refine WK.condT ?_ ?_; focus (simp only [ev_tmp, ev_const, fset_apply, Nat.reduceEqDiff, ↓reduceIte, decide_true, decide_false, ff_67]; done)) | (refine WK.condF ?_ ?_; focus (simp only [ev_tmp, ev_const, fset_apply, Nat.reduceEqDiff, ↓reduceIte, decide_true, decide_false, ff_67]; done)))
  refine WK.loop (fun k s => ∃ i j : Nat, s.n = n ∧ s.H = H ∧ s.f 1 = .func (.func F) #[] captured.toArray ∧ s.f 5 = .int .i64 (i : Nat) ∧ s.f 6 = .int .i64 (j : Nat) ∧ i ≤ j ∧ j ≤ l ∧ (∀ p, i = p + 1 → q p = false) ∧ (j < l → q j = true) ∧ k = j - i) l ?_ ?_
  · exact ⟨0, l, rfl, rfl, rfl, rfl, rfl, Nat.zero_le _, Nat.le_refl _, (fun p h => by omega), (fun h => absurd h (Nat.lt_irrefl _)), rfl⟩
  rintro kk ⟨f, n', H'⟩ ⟨i, j, rfl, rfl, f1, f5, f6, hij, hjl, hlo, hhi, rfl⟩ ih
  simp only at f1 f5 f6 ih hF
  by_cases h : i < j
  · have hw := half_w (i := i) (j := j) (by omega)
    have hu := half_u (i := i + j) (by omega)
    have hd := half_d (i + j)
    have hi := half_i (i := (i + j) / 2) (by omega)
    have hm1 : (i + j) / 2 < j := by omega
    have hm2 : i ≤ (i + j) / 2 := by omega
    have hmw : IntKind.i64.wrap ((((i + j) / 2 : Nat) : Int) + 1) = (((i + j) / 2 + 1 : Nat) : Int) := by rw [wrap_in (by omega) (by omega)]; rfl
    generalize (i + j) / 2 = m at *
    repeat (first | apply WK.seq | apply WK.block | apply WK.skipSeq | apply WK.skipBlock | apply WK.retSeq | apply WK.retBlock | apply WK.exitSeq | apply WK.exitHere | refine WK.exitOn rfl ?_ | ((first | (refine WK.rgn ?_ ?_; kernel_rfl) | refine AtCall.now ?_); simp (config := { maxSteps := 1000000 }) only [SS, forall_const, wx, tguard, acallee, top, tval, fput, tor, vsh, vbin, vconv, vun, Int.reduceEq, Int.reduceNeg, Nat.reduceGT, Nat.reduceLT, Nat.reduceLeDiff, Nat.reduceEqDiff, ↓reduceIte, reduceCtorEq, Int.reduceToNat, Int.reduceLE, Int.reduceLT, Nat.reduceAdd, Nat.reduceMul, f1, f5, f6, h, hw, hu, hd, hi, List.nil_append, List.cons_append, ff_67]) | (refine WK.condT ?_ ?_; focus (simp only [ev_tmp, ev_const, fset_apply, Nat.reduceEqDiff, ↓reduceIte, decide_true, decide_false, f1, f5, f6, h, hw, hu, hd, hi, List.nil_append, List.cons_append, ff_67]; done)) | (refine WK.condF ?_ ?_; focus (simp only [ev_tmp, ev_const, fset_apply, Nat.reduceEqDiff, ↓reduceIte, decide_true, decide_false, f1, f5, f6, h, hw, hu, hd, hi, List.nil_append, List.cons_append, ff_67]; done)))
    refine AtCall.by (hF m _ _ (by omega) (Kp.refl _ _)) ?_
    rintro v n2 H2 hk2 ⟨rfl, rfl, rfl⟩
    cases hq : q m
    · simp (config := { maxSteps := 1000000 }) only [SS, forall_const, wx, tguard, acallee, top, tval, fput, tor, vsh, vbin, vconv, vun, Int.reduceEq, Int.reduceNeg, Nat.reduceGT, Nat.reduceLT, Nat.reduceLeDiff, Nat.reduceEqDiff, ↓reduceIte, reduceCtorEq, Int.reduceToNat, Int.reduceLE, Int.reduceLT, Nat.reduceAdd, Nat.reduceMul, ff_67]
      repeat (first | apply WK.seq | apply WK.block | apply WK.skipSeq | apply WK.skipBlock | apply WK.retSeq | apply WK.retBlock | apply WK.exitSeq | apply WK.exitHere | refine WK.exitOn rfl ?_ | ((first | (refine WK.rgn ?_ ?_; kernel_rfl) | refine AtCall.now ?_); simp (config := { maxSteps := 1000000 }) only [SS, forall_const, wx, tguard, acallee, top, tval, fput, tor, vsh, vbin, vconv, vun, Int.reduceEq, Int.reduceNeg, Nat.reduceGT, Nat.reduceLT, Nat.reduceLeDiff, Nat.reduceEqDiff, ↓reduceIte, reduceCtorEq, Int.reduceToNat, Int.reduceLE, Int.reduceLT, Nat.reduceAdd, Nat.reduceMul, hmw, ff_67]) | (refine WK.condT ?_ ?_; focus (simp only [ev_tmp, ev_const, fset_apply, Nat.reduceEqDiff, ↓reduceIte, decide_true, decide_false, hmw, ff_67]; done)) | (refine WK.condF ?_ ?_; focus (simp only [ev_tmp, ev_const, fset_apply, Nat.reduceEqDiff, ↓reduceIte, decide_true, decide_false, hmw, ff_67]; done)))
      refine ih (j - (m + 1)) (by omega) _ ⟨m + 1, j, rfl, rfl, f1, rfl, f6, hm1, hjl, (fun p hp => ?_), hhi, rfl⟩
      have : p = m := by omega
      rw [this]; exact hq
    · simp (config := { maxSteps := 1000000 }) only [SS, forall_const, wx, tguard, acallee, top, tval, fput, tor, vsh, vbin, vconv, vun, Int.reduceEq, Int.reduceNeg, Nat.reduceGT, Nat.reduceLT, Nat.reduceLeDiff, Nat.reduceEqDiff, ↓reduceIte, reduceCtorEq, Int.reduceToNat, Int.reduceLE, Int.reduceLT, Nat.reduceAdd, Nat.reduceMul, ff_67]
      repeat (first | apply WK.seq | apply WK.block | apply WK.skipSeq | apply WK.skipBlock | apply WK.retSeq | apply WK.retBlock | apply WK.exitSeq | apply WK.exitHere | refine WK.exitOn rfl ?_ | ((first | (refine WK.rgn ?_ ?_; kernel_rfl) | refine AtCall.now ?_); simp (config := { maxSteps := 1000000 }) only [SS, forall_const, wx, tguard, acallee, top, tval, fput, tor, vsh, vbin, vconv, vun, Int.reduceEq, Int.reduceNeg, Nat.reduceGT, Nat.reduceLT, Nat.reduceLeDiff, Nat.reduceEqDiff, ↓reduceIte, reduceCtorEq, Int.reduceToNat, Int.reduceLE, Int.reduceLT, Nat.reduceAdd, Nat.reduceMul, ff_67]) | (refine WK.condT ?_ ?_; focus (simp only [ev_tmp, ev_const, fset_apply, Nat.reduceEqDiff, ↓reduceIte, decide_true, decide_false, ff_67]; done)) | (refine WK.condF ?_ ?_; focus (simp only [ev_tmp, ev_const, fset_apply, Nat.reduceEqDiff, ↓reduceIte, decide_true, decide_false, ff_67]; done)))
      refine ih (m - i) (by omega) _ ⟨i, m, rfl, rfl, f1, f5, rfl, hm2, by omega, hlo, (fun _ => hq), rfl⟩
  · have hij' : i = j := by omega
    subst hij'
    repeat (first | apply WK.seq | apply WK.block | apply WK.skipSeq | apply WK.skipBlock | apply WK.retSeq | apply WK.retBlock | apply WK.exitSeq | apply WK.exitHere | refine WK.exitOn rfl ?_ | ((first | (refine WK.rgn ?_ ?_; kernel_rfl) | refine AtCall.now ?_); simp (config := { maxSteps := 1000000 }) only [SS, forall_const, wx, tguard, acallee, top, tval, fput, tor, vsh, vbin, vconv, vun, Int.reduceEq, Int.reduceNeg, Nat.reduceGT, Nat.reduceLT, Nat.reduceLeDiff, Nat.reduceEqDiff, ↓reduceIte, reduceCtorEq, Int.reduceToNat, Int.reduceLE, Int.reduceLT, Nat.reduceAdd, Nat.reduceMul, f1, f5, f6, h, ff_67]) | (refine WK.condT ?_ ?_; focus (simp only [ev_tmp, ev_const, fset_apply, Nat.reduceEqDiff, ↓reduceIte, decide_true, decide_false, f1, f5, f6, h, ff_67]; done)) | (refine WK.condF ?_ ?_; focus (simp only [ev_tmp, ev_const, fset_apply, Nat.reduceEqDiff, ↓reduceIte, decide_true, decide_false, f1, f5, f6, h, ff_67]; done)))
    (first | refine WK.retNil ⟨Or.inr rfl, _, rfl, ?_, ?_⟩ | refine WK.skipNil ⟨Or.inl rfl, _, rfl, ?_, ?_⟩)
    · exact fun _ _ => rfl
    · simp only [packed, fset_apply, Nat.reduceEqDiff, ↓reduceIte, List.getD_cons_zero, List.getD_cons_succ, ff_67]
      exact ⟨i, rfl, trivial, trivial, hjl, hlo, hhi⟩
theorem rules1_gives {pt pv pr : Option Addr} {g : Gram} {v : Int} {i x y n : Nat} {H : Heap} (hr : RR H pr g.rules) (hx : H x = .cells (gcells pt pv pr g) 25 true) (hy : H y = .cells [.int .i64 v] 3 true) (hi : i < g.rules.length) :
    Gives Try.prog 68 [.int .i64 (i : Nat), .pointer (some ⟨x, 0, none⟩), .pointer (some ⟨y, 0, none⟩)] n H fun u n' H' => u = .bool (decide (v ≤ (g.rules.map GRule.left).getD i 0)) ∧ n' = n ∧ H' = H := by
  refine Gives.of orders ok68 (Nat.le_of_ble_eq_true rfl) ?_
  obtain ⟨z, k, cs, ty, own, p, rfl, hz, c0, c1, c2, hp⟩ := hr.at hi
  repeat (first | apply WK.seq | apply WK.block | apply WK.skipSeq | apply WK.skipBlock | apply WK.retSeq | apply WK.retBlock | apply WK.exitSeq | apply WK.exitHere | refine WK.exitOn rfl ?_ | ((first | (refine WK.rgn ?_ ?_; kernel_rfl) | refine AtCall.now ?_); simp (config := { maxSteps := 1000000 }) only [SS, forall_const, wx, tguard, acallee, top, tval, fput, tor, vsh, vbin, tload, tload2, tload3, tidx, tidx2, tidx3, tfa, tfa2, Int.reduceEq, Int.reduceNeg, Nat.reduceGT, Nat.reduceLT, Nat.reduceLeDiff, Nat.reduceEqDiff, ↓reduceIte, reduceCtorEq, Int.reduceToNat, Int.reduceLE, Int.reduceLT, Nat.reduceAdd, Nat.reduceMul, hx, gc_2, hy, hi, hz, c0, ff_68]) | (refine WK.condT ?_ ?_; focus (simp only [ev_tmp, ev_const, fset_apply, Nat.reduceEqDiff, ↓reduceIte, decide_true, decide_false, hx, gc_2, hy, hi, hz, c0, ff_68]; done)) | (refine WK.condF ?_ ?_; focus (simp only [ev_tmp, ev_const, fset_apply, Nat.reduceEqDiff, ↓reduceIte, decide_true, decide_false, hx, gc_2, hy, hi, hz, c0, ff_68]; done)))
  (first | refine WK.retNil ⟨Or.inr rfl, _, rfl, ?_, ?_⟩ | refine WK.skipNil ⟨Or.inl rfl, _, rfl, ?_, ?_⟩)
  · exact fun _ _ => rfl
  · simp only [packed, fset_apply, Nat.reduceEqDiff, ↓reduceIte, List.getD_cons_zero, List.getD_cons_succ, ff_68]
    simp [hi]
theorem rise_of {l : List GRule} (h : ∀ (i : Nat) (r r' : GRule), l[i + 1]? = some r → l[i]? = some r' → r'.left ≤ r.left) : ∀ (j i : Nat) (hj : j < l.length) (_hi : i ≤ j), (l[i]'(by omega)).left ≤ l[j].left := by
  intro j
  induction j with
  | zero => intro i hj hi; have : i = 0 := by omega
            subst this; exact Int.le_refl _
  | succ j ih =>
    intro i hj hi
    by_cases e : i = j + 1
    · subst e; exact Int.le_refl _
    · exact Int.le_trans (ih i (by omega) (by omega)) (h j _ _ (List.getElem?_eq_getElem hj) (List.getElem?_eq_getElem (show j < l.length by omega)))
theorem RightOK.rise {g : Gram} (ok : RightOK g) {i j : Nat} (hj : j < g.rules.length) (hi : i ≤ j) : (g.rules[i]'(by omega)).left ≤ g.rules[j].left := by
  refine rise_of (fun i r r' h h' => ?_) j i hj hi
  obtain ⟨hl, rfl⟩ := List.getElem?_eq_some_iff.1 h
  exact (ok.rule (i + 1) hl).up i rfl r' h'
set_option maxHeartbeats 4000000 in
theorem rules_gives {gv : Value} {g : Gram} {v : Int} {n : Nat} {H : Heap} (hw : WF n H) (hg : RG H gv g) (ok : RightOK g) :
    Gives Try.prog 36 [gv, .int .i64 v] n H fun u _ _ => ∃ a b : Nat, u = .tuple #[.int .i64 (a : Nat), .int .i64 (b : Nat)] ∧ a ≤ b ∧ b ≤ g.rules.length ∧ ∀ (i : Nat) (h : i < g.rules.length), g.rules[i].left = v ↔ a ≤ i ∧ i < b := by
  obtain ⟨pt, pv, pr, rfl, ht, hv, hr⟩ := hg
  refine Gives.of orders ok36 (Nat.le_of_ble_eq_true rfl) ?_
  have hrl := ok.rules
  have hk := (Kp.new n H (.cells (gcells pt pv pr g) 25 true)).trans (Kp.new (n + 1) _ (.cells [.int .i64 v] 3 true))
  have b0 : (hset (hset H n (.cells (gcells pt pv pr g) 25 true)) (n + 1) (.cells [.int .i64 v] 3 true)) n = _ := (hset_ne _ _ _ (by omega)).trans (hset_at _ _ _)
  have b1 : (hset (hset H n (.cells (gcells pt pv pr g) 25 true)) (n + 1) (.cells [.int .i64 v] 3 true)) (n + 1) = _ := hset_at _ _ _
  replace hr := hr.mono hw hk
  repeat (first | apply WK.seq | apply WK.block | apply WK.skipSeq | apply WK.skipBlock | apply WK.retSeq | apply WK.retBlock | apply WK.exitSeq | apply WK.exitHere | refine WK.exitOn rfl ?_)
  (refine WK.rgn ?_ ?_; kernel_rfl; simp (config := { maxSteps := 1000000 }) only [SS, forall_const, wx, tguard, acallee, top, tval, fput, tor, vsh, vbin, tload, tload2, tload3, tidx, tidx2, tidx3, tfa, tfa2, tlen2, tlen3, tpick, tbox, one, Int.reduceEq, Int.reduceNeg, Nat.reduceGT, Nat.reduceLT, Nat.reduceLeDiff, Nat.reduceEqDiff, ↓reduceIte, reduceCtorEq, Int.reduceToNat, Int.reduceLE, Int.reduceLT, Nat.reduceAdd, Nat.reduceMul, box_cells, box_one, ff_36])
  generalize hset (hset H n (.cells (gcells pt pv pr g) 25 true)) (n + 1) (.cells [.int .i64 v] 3 true) = H1 at *
  repeat (first | apply WK.seq | apply WK.block | apply WK.skipSeq | apply WK.skipBlock | apply WK.retSeq | apply WK.retBlock | apply WK.exitSeq | apply WK.exitHere | refine WK.exitOn rfl ?_)
  (refine WK.rgn ?_ ?_; kernel_rfl; simp (config := { maxSteps := 1000000 }) only [SS, forall_const, wx, tguard, acallee, top, tval, fput, tor, vsh, vbin, tload, tload2, tload3, tidx, tidx2, tidx3, tfa, tfa2, tlen2, tlen3, tpick, tbox, one, Int.reduceEq, Int.reduceNeg, Nat.reduceGT, Nat.reduceLT, Nat.reduceLeDiff, Nat.reduceEqDiff, ↓reduceIte, reduceCtorEq, Int.reduceToNat, Int.reduceLE, Int.reduceLT, Nat.reduceAdd, Nat.reduceMul, b0, gc_2, ff_36])
  have hs := search_gives (F := 68) (l := g.rules.length) (n := n + 1 + 1) (H := H1) (captured := [.pointer (some ⟨n, 0, none⟩), .pointer (some ⟨n + 1, 0, none⟩)]) (fun i => decide (v ≤ (g.rules.map GRule.left).getD i 0)) (by omega)
    (fun i n1 H2 hi k => rules1_gives (hr.mono (hk.wf hw) k) ((k.keep n (by omega)).trans b0) ((k.keep (n + 1) (by omega)).trans b1) hi)
  refine AtCall.by hs ?_
  rintro u n2 H2 k2 ⟨a, rfl, rfl, rfl, hal, hlo, hhi⟩
  simp (config := { maxSteps := 1000000 }) only [SS, forall_const, wx, tguard, acallee, top, tval, fput, tor, vsh, vbin, tload, tload2, tload3, tidx, tidx2, tidx3, tfa, tfa2, tlen2, tlen3, tpick, tbox, one, Int.reduceEq, Int.reduceNeg, Nat.reduceGT, Nat.reduceLT, Nat.reduceLeDiff, Nat.reduceEqDiff, ↓reduceIte, reduceCtorEq, Int.reduceToNat, Int.reduceLE, Int.reduceLT, Nat.reduceAdd, Nat.reduceMul, ff_36]
  repeat (first | apply WK.seq | apply WK.block | apply WK.skipSeq | apply WK.skipBlock | apply WK.retSeq | apply WK.retBlock | apply WK.exitSeq | apply WK.exitHere | refine WK.exitOn rfl ?_ | ((first | (refine WK.rgn ?_ ?_; kernel_rfl) | refine AtCall.now ?_); simp (config := { maxSteps := 1000000 }) only [SS, forall_const, wx, tguard, acallee, top, tval, fput, tor, vsh, vbin, tload, tload2, tload3, tidx, tidx2, tidx3, tfa, tfa2, tlen2, tlen3, tpick, tbox, one, Int.reduceEq, Int.reduceNeg, Nat.reduceGT, Nat.reduceLT, Nat.reduceLeDiff, Nat.reduceEqDiff, ↓reduceIte, reduceCtorEq, Int.reduceToNat, Int.reduceLE, Int.reduceLT, Nat.reduceAdd, Nat.reduceMul, ff_36]) | (refine WK.condT ?_ ?_; focus (simp only [ev_tmp, ev_const, fset_apply, Nat.reduceEqDiff, ↓reduceIte, decide_true, decide_false, ff_36]; done)) | (refine WK.condF ?_ ?_; focus (simp only [ev_tmp, ev_const, fset_apply, Nat.reduceEqDiff, ↓reduceIte, decide_true, decide_false, ff_36]; done)))
  have hleft : ∀ i (h : i < g.rules.length), (g.rules.map GRule.left).getD i 0 = g.rules[i].left := fun i h => by simp [h]
  have hbelow : ∀ i (h : i < g.rules.length), i < a → g.rules[i].left < v := by
    intro i h hia
    obtain ⟨p, rfl⟩ : ∃ p, a = p + 1 := ⟨a - 1, by omega⟩
    have h1 := hlo p rfl
    rw [hleft p (by omega), decide_eq_false_iff_not] at h1
    have h2 := ok.rise (i := i) (j := p) (by omega) (by omega)
    omega
  have habove : ∀ i (h : i < g.rules.length), a ≤ i → v ≤ g.rules[i].left := by
    intro i h hai
    have h1 := hhi (by omega)
    rw [hleft a (by omega), decide_eq_true_eq] at h1
    have h2 := ok.rise (i := a) (j := i) h hai
    omega
  refine WK.loop (fun k s => ∃ b : Nat, s.n = n + 1 + 1 ∧ s.H = H2 ∧ s.f 2 = .pointer (some ⟨n, 0, none⟩) ∧ s.f 3 = .pointer (some ⟨n + 1, 0, none⟩) ∧ s.f 6 = .int .i64 (a : Nat) ∧ s.f 7 = .int .i64 (b : Nat) ∧ a ≤ b ∧ b ≤ g.rules.length ∧ (∀ (i : Nat) (h : i < g.rules.length), a ≤ i → i < b → g.rules[i].left = v) ∧ k = g.rules.length - b) (g.rules.length - a) ?_ ?_
  · exact ⟨a, rfl, rfl, rfl, rfl, rfl, rfl, Nat.le_refl _, hal, (fun i h h1 h2 => by omega), rfl⟩
  rintro kk ⟨f, n', H'⟩ ⟨b, rfl, rfl, f2, f3, f6, f7, hab, hbl, hall, rfl⟩ ih
  simp only at f2 f3 f6 f7 ih b0 b1 hr
  have fini : ∀ i, b ≤ i → (h : i < g.rules.length) → (∀ h : b < g.rules.length, g.rules[b].left ≠ v) → g.rules[i].left ≠ v := by
    intro i hbi h hne e
    have h1 := ok.rise (i := b) (j := i) h hbi
    have h2 := habove b (by omega) hab
    exact hne (by omega) (by omega)
  by_cases hb : b < g.rules.length
  · have hbw : IntKind.i64.wrap ((b : Int) + 1) = ((b + 1 : Nat) : Int) := by rw [wrap_in (by omega) (by omega)]; rfl
    obtain ⟨z, k, cs, ty, own, p, rfl, hz, c0, c1, c2, hp⟩ := hr.at hb
    by_cases hv' : g.rules[b].left = v
    · repeat (first | apply WK.seq | apply WK.block | apply WK.skipSeq | apply WK.skipBlock | apply WK.retSeq | apply WK.retBlock | apply WK.exitSeq | apply WK.exitHere | refine WK.exitOn rfl ?_ | ((first | (refine WK.rgn ?_ ?_; kernel_rfl) | refine AtCall.now ?_); simp (config := { maxSteps := 1000000 }) only [SS, forall_const, wx, tguard, acallee, top, tval, fput, tor, vsh, vbin, tload, tload2, tload3, tidx, tidx2, tidx3, tfa, tfa2, tlen2, tlen3, tpick, tbox, one, Int.reduceEq, Int.reduceNeg, Nat.reduceGT, Nat.reduceLT, Nat.reduceLeDiff, Nat.reduceEqDiff, ↓reduceIte, reduceCtorEq, Int.reduceToNat, Int.reduceLE, Int.reduceLT, Nat.reduceAdd, Nat.reduceMul, f2, f3, f6, f7, b0, b1, gc_2, hb, hz, c0, hv', ff_36]) | (refine WK.condT ?_ ?_; focus (simp only [ev_tmp, ev_const, fset_apply, Nat.reduceEqDiff, ↓reduceIte, decide_true, decide_false, f2, f3, f6, f7, b0, b1, gc_2, hb, hz, c0, hv', ff_36]; done)) | (refine WK.condF ?_ ?_; focus (simp only [ev_tmp, ev_const, fset_apply, Nat.reduceEqDiff, ↓reduceIte, decide_true, decide_false, f2, f3, f6, f7, b0, b1, gc_2, hb, hz, c0, hv', ff_36]; done)))
      refine ih (g.rules.length - (b + 1)) (by omega) _ ⟨b + 1, rfl, rfl, f2, f3, f6, ?_, by omega, hb, (fun i h h1 h2 => ?_), rfl⟩
      · simp only [packed, fset_apply, Nat.reduceEqDiff, ↓reduceIte, List.getD_cons_zero, List.getD_cons_succ, f7, hbw, ff_36]
      · by_cases e : i = b
        · subst e; exact hv'
        · exact hall i h h1 (by omega)
    · repeat (first | apply WK.seq | apply WK.block | apply WK.skipSeq | apply WK.skipBlock | apply WK.retSeq | apply WK.retBlock | apply WK.exitSeq | apply WK.exitHere | refine WK.exitOn rfl ?_ | ((first | (refine WK.rgn ?_ ?_; kernel_rfl) | refine AtCall.now ?_); simp (config := { maxSteps := 1000000 }) only [SS, forall_const, wx, tguard, acallee, top, tval, fput, tor, vsh, vbin, tload, tload2, tload3, tidx, tidx2, tidx3, tfa, tfa2, tlen2, tlen3, tpick, tbox, one, Int.reduceEq, Int.reduceNeg, Nat.reduceGT, Nat.reduceLT, Nat.reduceLeDiff, Nat.reduceEqDiff, ↓reduceIte, reduceCtorEq, Int.reduceToNat, Int.reduceLE, Int.reduceLT, Nat.reduceAdd, Nat.reduceMul, f2, f3, f6, f7, b0, b1, gc_2, hb, hz, c0, hv', ff_36]) | (refine WK.condT ?_ ?_; focus (simp only [ev_tmp, ev_const, fset_apply, Nat.reduceEqDiff, ↓reduceIte, decide_true, decide_false, f2, f3, f6, f7, b0, b1, gc_2, hb, hz, c0, hv', ff_36]; done)) | (refine WK.condF ?_ ?_; focus (simp only [ev_tmp, ev_const, fset_apply, Nat.reduceEqDiff, ↓reduceIte, decide_true, decide_false, f2, f3, f6, f7, b0, b1, gc_2, hb, hz, c0, hv', ff_36]; done)))
      (first | refine WK.retNil ⟨Or.inr rfl, _, rfl, ?_, ?_⟩ | refine WK.skipNil ⟨Or.inl rfl, _, rfl, ?_, ?_⟩)
      · exact fun x hx => hk.keep x hx
      · simp only [packed, fset_apply, Nat.reduceEqDiff, ↓reduceIte, List.getD_cons_zero, List.getD_cons_succ, ff_36]
        refine ⟨a, b, rfl, hab, hbl, fun i h => ⟨fun e => ?_, fun ⟨h1, h2⟩ => hall i h h1 h2⟩⟩
        refine ⟨?_, ?_⟩
        · apply Classical.byContradiction; intro hc; have := hbelow i h (by omega); omega
        · apply Classical.byContradiction; intro hc; exact fini i (by omega) h (fun _ => hv') e
  · repeat (first | apply WK.seq | apply WK.block | apply WK.skipSeq | apply WK.skipBlock | apply WK.retSeq | apply WK.retBlock | apply WK.exitSeq | apply WK.exitHere | refine WK.exitOn rfl ?_ | ((first | (refine WK.rgn ?_ ?_; kernel_rfl) | refine AtCall.now ?_); simp (config := { maxSteps := 1000000 }) only [SS, forall_const, wx, tguard, acallee, top, tval, fput, tor, vsh, vbin, tload, tload2, tload3, tidx, tidx2, tidx3, tfa, tfa2, tlen2, tlen3, tpick, tbox, one, Int.reduceEq, Int.reduceNeg, Nat.reduceGT, Nat.reduceLT, Nat.reduceLeDiff, Nat.reduceEqDiff, ↓reduceIte, reduceCtorEq, Int.reduceToNat, Int.reduceLE, Int.reduceLT, Nat.reduceAdd, Nat.reduceMul, f2, f3, f6, f7, b0, b1, gc_2, hb, ff_36]) | (refine WK.condT ?_ ?_; focus (simp only [ev_tmp, ev_const, fset_apply, Nat.reduceEqDiff, ↓reduceIte, decide_true, decide_false, f2, f3, f6, f7, b0, b1, gc_2, hb, ff_36]; done)) | (refine WK.condF ?_ ?_; focus (simp only [ev_tmp, ev_const, fset_apply, Nat.reduceEqDiff, ↓reduceIte, decide_true, decide_false, f2, f3, f6, f7, b0, b1, gc_2, hb, ff_36]; done)))
    (first | refine WK.retNil ⟨Or.inr rfl, _, rfl, ?_, ?_⟩ | refine WK.skipNil ⟨Or.inl rfl, _, rfl, ?_, ?_⟩)
    · exact fun x hx => hk.keep x hx
    · simp only [packed, fset_apply, Nat.reduceEqDiff, ↓reduceIte, List.getD_cons_zero, List.getD_cons_succ, ff_36]
      refine ⟨a, b, rfl, hab, hbl, fun i h => ⟨fun e => ?_, fun ⟨h1, h2⟩ => hall i h h1 h2⟩⟩
      refine ⟨?_, by omega⟩
      apply Classical.byContradiction; intro hc; have := hbelow i h (by omega); omega
end Go.Proofs.Ytfbdababcdfjfaa

namespace Go.Proofs.Ytfbdababcdfjfaa
open Go.AM
set_option maxRecDepth 100000
structure CL (H : Heap) (p : Option Addr) (L : List (Cfg × Option Addr)) : Prop where
  row : RN 4 ccell H p L
  st : ∀ x ∈ L, StOK H x
theorem CL.mono {n n' : Nat} {H H' : Heap} {p : Option Addr} {L : List (Cfg × Option Addr)} (h : CL H p L) (hw : WF n H) (hk : Kp n H n' H') : CL H' p L := ⟨h.row.mono hw hk, fun x hx => (h.st x hx).mono hw hk⟩
def Srt (L : List (Cfg × Option Addr)) : Prop := L.Pairwise fun a b => cmpC a.1 b.1 < 0
theorem Srt.lt {L : List (Cfg × Option Addr)} (h : Srt L) {i j : Nat} (hj : j < L.length) (hij : i < j) : cmpC (L[i]'(by omega)).1 L[j].1 < 0 := List.pairwise_iff_getElem.1 h i j (by omega) hj hij
theorem cmpC_lt {a b c : Cfg} (h : cmpC a b < 0) (k : cmpC b c ≤ 0) : cmpC a c < 0 := by
  have h1 := cmpC_trans (by omega : cmpC a b ≤ 0) k
  by_cases e : cmpC a c = 0
  · rw [cmpC_zero] at e
    subst e
    have := cmpC_neg a b
    omega
  · omega
set_option maxHeartbeats 8000000 in
theorem bin_gives {p : Option Addr} {L : List (Cfg × Option Addr)} {x : Cfg × Option Addr} {n : Nat} {H : Heap} (hw : WF n H) (hL : CL H p L) (hx : StOK H x) (hs : Srt L) (hl : L.length ≤ 65536) (hsl : ∀ y ∈ L, y.1.stack.length ≤ 65536) :
    Gives Try.prog 69 [.slice p L.length L.length, .agg (ccell x).toArray, .func (.func 20) #[] #[]] n H fun v n' H' => ∃ (i : Nat) (b : Bool), v = .tuple #[.int .i64 (i : Nat), .bool b] ∧ i ≤ L.length ∧
      (∀ k (h : k < L.length), k < i → cmpC L[k].1 x.1 < 0) ∧ (∀ k (h : k < L.length), i ≤ k → 0 ≤ cmpC L[k].1 x.1) ∧ (b = true ↔ x.1 ∈ L.map (·.1)) := by
  refine Gives.of orders ok69 (Nat.le_of_ble_eq_true rfl) ?_
  have v1 : ∀ s, vcells (.agg (ccell s).toArray) = ccell s := fun _ => rfl
  have v2 : ∀ s, (ccell s).all one = true := fun _ => rfl
  have v5 : ∀ s, (ccell s).length = 4 := fun _ => rfl
  have v6 : ∀ s, ((ccell s).drop 0).take 4 = ccell s := fun _ => rfl
  have k1 := Kp.new n H (.cells (ccell x) 47 true)
  have hb := hset_at H n (.cells (ccell x) 47 true)
  repeat (first | apply WK.seq | apply WK.block | apply WK.skipSeq | apply WK.skipBlock | apply WK.retSeq | apply WK.retBlock | apply WK.exitSeq | apply WK.exitHere | refine WK.exitOn rfl ?_)
  (refine WK.rgn ?_ ?_; kernel_rfl; simp (config := { maxSteps := 1000000 }) only [SS, forall_const, wx, tguard, acallee, top, tval, fput, tor, vsh, vbin, vconv, tload, tload2, tload3, tidx, tidx2, tidx3, tlen2, tlen3, tpick, tbox, one, Int.reduceEq, Int.reduceNeg, Nat.reduceGT, Nat.reduceLT, Nat.reduceLeDiff, Nat.reduceEqDiff, ↓reduceIte, reduceCtorEq, Int.reduceToNat, Int.reduceLE, Int.reduceLT, Nat.reduceAdd, Nat.reduceMul, abox, v1, v2, ff_69])
  generalize hset H n (.cells (ccell x) 47 true) = H1 at *
  have hw1 := k1.wf hw
  have hL1 := hL.mono hw k1
  have hx1 := hx.mono hw k1
  repeat (first | apply WK.seq | apply WK.block | apply WK.skipSeq | apply WK.skipBlock | apply WK.retSeq | apply WK.retBlock | apply WK.exitSeq | apply WK.exitHere | refine WK.exitOn rfl ?_ | ((first | (refine WK.rgn ?_ ?_; kernel_rfl) | refine AtCall.now ?_); simp (config := { maxSteps := 1000000 }) only [SS, forall_const, wx, tguard, acallee, top, tval, fput, tor, vsh, vbin, vconv, tload, tload2, tload3, tidx, tidx2, tidx3, tlen2, tlen3, tpick, tbox, one, Int.reduceEq, Int.reduceNeg, Nat.reduceGT, Nat.reduceLT, Nat.reduceLeDiff, Nat.reduceEqDiff, ↓reduceIte, reduceCtorEq, Int.reduceToNat, Int.reduceLE, Int.reduceLT, Nat.reduceAdd, Nat.reduceMul, ff_69]) | (refine WK.condT ?_ ?_; focus (simp only [ev_tmp, ev_const, fset_apply, Nat.reduceEqDiff, ↓reduceIte, decide_true, decide_false, ff_69]; done)) | (refine WK.condF ?_ ?_; focus (simp only [ev_tmp, ev_const, fset_apply, Nat.reduceEqDiff, ↓reduceIte, decide_true, decide_false, ff_69]; done)))
  refine WK.loop (fun k s => ∃ i j : Nat, Kp (n + 1) H1 s.n s.H ∧ s.f 0 = .slice p L.length L.length ∧ s.f 2 = .func (.func 20) #[] #[] ∧ s.f 4 = .pointer (some ⟨n, 0, none⟩) ∧ s.f 8 = .int .i64 (L.length : Nat) ∧ s.f 9 = .int .i64 (i : Nat) ∧ s.f 10 = .int .i64 (j : Nat) ∧ i ≤ j ∧ j ≤ L.length ∧
    (∀ k (h : k < L.length), k < i → cmpC L[k].1 x.1 < 0) ∧ (∀ k (h : k < L.length), j ≤ k → 0 ≤ cmpC L[k].1 x.1) ∧ k = j - i) L.length ?_ ?_
  · exact ⟨0, L.length, Kp.refl _ _, rfl, rfl, rfl, rfl, rfl, rfl, Nat.zero_le _, Nat.le_refl _, (fun k h h' => absurd h' (Nat.not_lt_zero _)), (fun k h h' => absurd h (by omega)), rfl⟩
  rintro kk ⟨f, n2, H2⟩ ⟨i, j, k2, f0, f2, f4, f8, f9, f10, hij, hjl, hlo, hhi, rfl⟩ ih
  simp only at k2 f0 f2 f4 f8 f9 f10 ih
  have hw2 := k2.wf hw1
  have hle2 := k2.le
  have hb2 := (k2.keep n (by omega)).trans hb
  have hL2 := hL1.mono hw1 k2
  have hx2 := hx1.mono hw1 k2
  by_cases h : i < j
  · have hwr := half_w (i := i) (j := j) (by omega)
    have hu := half_u (i := i + j) (by omega)
    have hd := half_d (i + j)
    have hi := half_i (i := (i + j) / 2) (by omega)
    have hm1 : (i + j) / 2 < j := by omega
    have hm2 : i ≤ (i + j) / 2 := by omega
    have hmw : IntKind.i64.wrap ((((i + j) / 2 : Nat) : Int) + 1) = (((i + j) / 2 + 1 : Nat) : Int) := by rw [wrap_in (by omega) (by omega)]; rfl
    generalize (i + j) / 2 = m at *
    have hml : m < L.length := by omega
    obtain ⟨z, kz, cs, tz, oz, hp, hz, ez, lz⟩ := hL2.row.at ccell_len hml
    rw [hp] at f0
    have hmem := List.getElem_mem hml
    have hcg := cmpC_gives (x := L[m]) (y := x) hw2 (hL2.st _ hmem) hx2 (by have := hsl _ hmem; unfold maxL; omega)
    repeat (first | apply WK.seq | apply WK.block | apply WK.skipSeq | apply WK.skipBlock | apply WK.retSeq | apply WK.retBlock | apply WK.exitSeq | apply WK.exitHere | refine WK.exitOn rfl ?_ | ((first | (refine WK.rgn ?_ ?_; kernel_rfl) | refine AtCall.now ?_); simp (config := { maxSteps := 1000000 }) only [SS, forall_const, wx, tguard, acallee, top, tval, fput, tor, vsh, vbin, vconv, tload, tload2, tload3, tidx, tidx2, tidx3, tlen2, tlen3, tpick, tbox, one, Int.reduceEq, Int.reduceNeg, Nat.reduceGT, Nat.reduceLT, Nat.reduceLeDiff, Nat.reduceEqDiff, ↓reduceIte, reduceCtorEq, Int.reduceToNat, Int.reduceLE, Int.reduceLT, Nat.reduceAdd, Nat.reduceMul, f0, f2, f4, f8, f9, f10, h, hwr, hu, hd, hi, hml, hz, ez, lz, hb2, v5, v6, ff_69]) | (refine WK.condT ?_ ?_; focus (simp only [ev_tmp, ev_const, fset_apply, Nat.reduceEqDiff, ↓reduceIte, decide_true, decide_false, f0, f2, f4, f8, f9, f10, h, hwr, hu, hd, hi, hml, hz, ez, lz, hb2, v5, v6, ff_69]; done)) | (refine WK.condF ?_ ?_; focus (simp only [ev_tmp, ev_const, fset_apply, Nat.reduceEqDiff, ↓reduceIte, decide_true, decide_false, f0, f2, f4, f8, f9, f10, h, hwr, hu, hd, hi, hml, hz, ez, lz, hb2, v5, v6, ff_69]; done)))
    refine AtCall.by hcg ?_
    rintro v n3 H3 k3 rfl
    have k23 := k2.trans k3
    have hsm := cmpC_small L[m].1 x.1
    by_cases hq : cmpC L[m].1 x.1 < 0
    · simp (config := { maxSteps := 1000000 }) only [SS, forall_const, wx, tguard, acallee, top, tval, fput, tor, vsh, vbin, vconv, tload, tload2, tload3, tidx, tidx2, tidx3, tlen2, tlen3, tpick, tbox, one, Int.reduceEq, Int.reduceNeg, Nat.reduceGT, Nat.reduceLT, Nat.reduceLeDiff, Nat.reduceEqDiff, ↓reduceIte, reduceCtorEq, Int.reduceToNat, Int.reduceLE, Int.reduceLT, Nat.reduceAdd, Nat.reduceMul, hq, decide_true, ff_69]
      repeat (first | apply WK.seq | apply WK.block | apply WK.skipSeq | apply WK.skipBlock | apply WK.retSeq | apply WK.retBlock | apply WK.exitSeq | apply WK.exitHere | refine WK.exitOn rfl ?_ | ((first | (refine WK.rgn ?_ ?_; kernel_rfl) | refine AtCall.now ?_); simp (config := { maxSteps := 1000000 }) only [SS, forall_const, wx, tguard, acallee, top, tval, fput, tor, vsh, vbin, vconv, tload, tload2, tload3, tidx, tidx2, tidx3, tlen2, tlen3, tpick, tbox, one, Int.reduceEq, Int.reduceNeg, Nat.reduceGT, Nat.reduceLT, Nat.reduceLeDiff, Nat.reduceEqDiff, ↓reduceIte, reduceCtorEq, Int.reduceToNat, Int.reduceLE, Int.reduceLT, Nat.reduceAdd, Nat.reduceMul, hmw, ff_69]) | (refine WK.condT ?_ ?_; focus (simp only [ev_tmp, ev_const, fset_apply, Nat.reduceEqDiff, ↓reduceIte, decide_true, decide_false, hmw, ff_69]; done)) | (refine WK.condF ?_ ?_; focus (simp only [ev_tmp, ev_const, fset_apply, Nat.reduceEqDiff, ↓reduceIte, decide_true, decide_false, hmw, ff_69]; done)))
      exact ih (j - (m + 1)) (by omega) _ ⟨m + 1, j, k23, by rw [hp]; exact f0, f2, f4, f8, rfl, f10, hm1, hjl, (fun k hk hk' => by
        by_cases e : k = m
        · subst e; exact hq
        · exact cmpC_lt (hs.lt hml (by omega)) (by omega)), hhi, rfl⟩
    · simp (config := { maxSteps := 1000000 }) only [SS, forall_const, wx, tguard, acallee, top, tval, fput, tor, vsh, vbin, vconv, tload, tload2, tload3, tidx, tidx2, tidx3, tlen2, tlen3, tpick, tbox, one, Int.reduceEq, Int.reduceNeg, Nat.reduceGT, Nat.reduceLT, Nat.reduceLeDiff, Nat.reduceEqDiff, ↓reduceIte, reduceCtorEq, Int.reduceToNat, Int.reduceLE, Int.reduceLT, Nat.reduceAdd, Nat.reduceMul, hq, decide_false, ff_69]
      repeat (first | apply WK.seq | apply WK.block | apply WK.skipSeq | apply WK.skipBlock | apply WK.retSeq | apply WK.retBlock | apply WK.exitSeq | apply WK.exitHere | refine WK.exitOn rfl ?_ | ((first | (refine WK.rgn ?_ ?_; kernel_rfl) | refine AtCall.now ?_); simp (config := { maxSteps := 1000000 }) only [SS, forall_const, wx, tguard, acallee, top, tval, fput, tor, vsh, vbin, vconv, tload, tload2, tload3, tidx, tidx2, tidx3, tlen2, tlen3, tpick, tbox, one, Int.reduceEq, Int.reduceNeg, Nat.reduceGT, Nat.reduceLT, Nat.reduceLeDiff, Nat.reduceEqDiff, ↓reduceIte, reduceCtorEq, Int.reduceToNat, Int.reduceLE, Int.reduceLT, Nat.reduceAdd, Nat.reduceMul, ff_69]) | (refine WK.condT ?_ ?_; focus (simp only [ev_tmp, ev_const, fset_apply, Nat.reduceEqDiff, ↓reduceIte, decide_true, decide_false, ff_69]; done)) | (refine WK.condF ?_ ?_; focus (simp only [ev_tmp, ev_const, fset_apply, Nat.reduceEqDiff, ↓reduceIte, decide_true, decide_false, ff_69]; done)))
      exact ih (m - i) (by omega) _ ⟨i, m, k23, by rw [hp]; exact f0, f2, f4, f8, f9, rfl, hm2, by omega, hlo, (fun k hk hk' => by
        by_cases e : k = m
        · subst e; omega
        · have h1 := hs.lt hk (by omega : m < k)
          by_cases h2 : cmpC L[k].1 x.1 < 0
          · have := cmpC_lt h1 (by omega : cmpC L[k].1 x.1 ≤ 0)
            omega
          · omega), rfl⟩
  · have hij' : i = j := by omega
    subst hij'
    have hnot : ∀ k (h : k < L.length), k < i → L[k].1 ≠ x.1 := fun k hk hki e => by
      have := hlo k hk hki
      rw [cmpC_zero.2 e] at this; omega
    by_cases hil : i < L.length
    · obtain ⟨z, kz, cs, tz, oz, hp, hz, ez, lz⟩ := hL2.row.at ccell_len hil
      rw [hp] at f0
      have hmem := List.getElem_mem hil
      have hcg := cmpC_gives (x := L[i]) (y := x) hw2 (hL2.st _ hmem) hx2 (by have := hsl _ hmem; unfold maxL; omega)
      repeat (first | apply WK.seq | apply WK.block | apply WK.skipSeq | apply WK.skipBlock | apply WK.retSeq | apply WK.retBlock | apply WK.exitSeq | apply WK.exitHere | refine WK.exitOn rfl ?_ | ((first | (refine WK.rgn ?_ ?_; kernel_rfl) | refine AtCall.now ?_); simp (config := { maxSteps := 1000000 }) only [SS, forall_const, wx, tguard, acallee, top, tval, fput, tor, vsh, vbin, vconv, tload, tload2, tload3, tidx, tidx2, tidx3, tlen2, tlen3, tpick, tbox, one, Int.reduceEq, Int.reduceNeg, Nat.reduceGT, Nat.reduceLT, Nat.reduceLeDiff, Nat.reduceEqDiff, ↓reduceIte, reduceCtorEq, Int.reduceToNat, Int.reduceLE, Int.reduceLT, Nat.reduceAdd, Nat.reduceMul, f0, f2, f4, f8, f9, f10, Nat.lt_irrefl, Int.lt_irrefl, hil, hz, ez, lz, hb2, v5, v6, ff_69]) | (refine WK.condT ?_ ?_; focus (simp only [ev_tmp, ev_const, fset_apply, Nat.reduceEqDiff, ↓reduceIte, decide_true, decide_false, f0, f2, f4, f8, f9, f10, Nat.lt_irrefl, Int.lt_irrefl, hil, hz, ez, lz, hb2, v5, v6, ff_69]; done)) | (refine WK.condF ?_ ?_; focus (simp only [ev_tmp, ev_const, fset_apply, Nat.reduceEqDiff, ↓reduceIte, decide_true, decide_false, f0, f2, f4, f8, f9, f10, Nat.lt_irrefl, Int.lt_irrefl, hil, hz, ez, lz, hb2, v5, v6, ff_69]; done)))
      refine AtCall.by hcg ?_
      rintro v n3 H3 k3 rfl
      simp (config := { maxSteps := 1000000 }) only [SS, forall_const, wx, tguard, acallee, top, tval, fput, tor, vsh, vbin, vconv, tload, tload2, tload3, tidx, tidx2, tidx3, tlen2, tlen3, tpick, tbox, one, Int.reduceEq, Int.reduceNeg, Nat.reduceGT, Nat.reduceLT, Nat.reduceLeDiff, Nat.reduceEqDiff, ↓reduceIte, reduceCtorEq, Int.reduceToNat, Int.reduceLE, Int.reduceLT, Nat.reduceAdd, Nat.reduceMul, ff_69]
      repeat (first | apply WK.seq | apply WK.block | apply WK.skipSeq | apply WK.skipBlock | apply WK.retSeq | apply WK.retBlock | apply WK.exitSeq | apply WK.exitHere | refine WK.exitOn rfl ?_ | ((first | (refine WK.rgn ?_ ?_; kernel_rfl) | refine AtCall.now ?_); simp (config := { maxSteps := 1000000 }) only [SS, forall_const, wx, tguard, acallee, top, tval, fput, tor, vsh, vbin, vconv, tload, tload2, tload3, tidx, tidx2, tidx3, tlen2, tlen3, tpick, tbox, one, Int.reduceEq, Int.reduceNeg, Nat.reduceGT, Nat.reduceLT, Nat.reduceLeDiff, Nat.reduceEqDiff, ↓reduceIte, reduceCtorEq, Int.reduceToNat, Int.reduceLE, Int.reduceLT, Nat.reduceAdd, Nat.reduceMul, ff_69]) | (refine WK.condT ?_ ?_; focus (simp only [ev_tmp, ev_const, fset_apply, Nat.reduceEqDiff, ↓reduceIte, decide_true, decide_false, ff_69]; done)) | (refine WK.condF ?_ ?_; focus (simp only [ev_tmp, ev_const, fset_apply, Nat.reduceEqDiff, ↓reduceIte, decide_true, decide_false, ff_69]; done)))
      (first | refine WK.retNil ⟨Or.inr rfl, _, rfl, ?_, ?_⟩ | refine WK.skipNil ⟨Or.inl rfl, _, rfl, ?_, ?_⟩)
      · exact ((k1.trans k2).trans k3).keep
      · simp only [packed, fset_apply, Nat.reduceEqDiff, ↓reduceIte, List.getD_cons_zero, List.getD_cons_succ, ff_69]
        refine ⟨i, decide (cmpC L[i].1 x.1 = 0), ?_, by omega, hlo, hhi, ?_⟩
        · by_cases e : cmpC L[i].1 x.1 = 0 <;> simp [e]
        · rw [decide_eq_true_eq, cmpC_zero, List.mem_map]
          constructor
          · intro e; exact ⟨_, hmem, e⟩
          · rintro ⟨y, hy, e⟩
            obtain ⟨k, hk, rfl⟩ := List.getElem_of_mem hy
            by_cases h1 : k < i
            · exact absurd e (hnot k hk h1)
            · by_cases h2 : k = i
              · subst h2; exact e
              · have h3 := hs.lt hk (by omega : i < k)
                rw [e] at h3
                have h4 := hhi i hil (Nat.le_refl _)
                omega
    · have hil' : ((i : Int) < (L.length : Int)) = False := eq_false (by omega)
      repeat (first | apply WK.seq | apply WK.block | apply WK.skipSeq | apply WK.skipBlock | apply WK.retSeq | apply WK.retBlock | apply WK.exitSeq | apply WK.exitHere | refine WK.exitOn rfl ?_ | ((first | (refine WK.rgn ?_ ?_; kernel_rfl) | refine AtCall.now ?_); simp (config := { maxSteps := 1000000 }) only [SS, forall_const, wx, tguard, acallee, top, tval, fput, tor, vsh, vbin, vconv, tload, tload2, tload3, tidx, tidx2, tidx3, tlen2, tlen3, tpick, tbox, one, Int.reduceEq, Int.reduceNeg, Nat.reduceGT, Nat.reduceLT, Nat.reduceLeDiff, Nat.reduceEqDiff, ↓reduceIte, reduceCtorEq, Int.reduceToNat, Int.reduceLE, Int.reduceLT, Nat.reduceAdd, Nat.reduceMul, f0, f2, f4, f8, f9, f10, Nat.lt_irrefl, Int.lt_irrefl, hil, hil', ff_69]) | (refine WK.condT ?_ ?_; focus (simp only [ev_tmp, ev_const, fset_apply, Nat.reduceEqDiff, ↓reduceIte, decide_true, decide_false, f0, f2, f4, f8, f9, f10, Nat.lt_irrefl, Int.lt_irrefl, hil, hil', ff_69]; done)) | (refine WK.condF ?_ ?_; focus (simp only [ev_tmp, ev_const, fset_apply, Nat.reduceEqDiff, ↓reduceIte, decide_true, decide_false, f0, f2, f4, f8, f9, f10, Nat.lt_irrefl, Int.lt_irrefl, hil, hil', ff_69]; done)))
      (first | refine WK.retNil ⟨Or.inr rfl, _, rfl, ?_, ?_⟩ | refine WK.skipNil ⟨Or.inl rfl, _, rfl, ?_, ?_⟩)
      · exact (k1.trans k2).keep
      · simp only [packed, fset_apply, Nat.reduceEqDiff, ↓reduceIte, List.getD_cons_zero, List.getD_cons_succ, ff_69]
        refine ⟨i, false, ?_, by omega, hlo, hhi, ?_⟩
        · simp
        · constructor
          · intro e; cases e
          · intro e
            obtain ⟨y, hy, e⟩ := List.mem_map.1 e
            obtain ⟨k, hk, rfl⟩ := List.getElem_of_mem hy
            exact absurd e (hnot k hk (by omega))
end Go.Proofs.Ytfbdababcdfjfaa
