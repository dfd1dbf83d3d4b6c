/- A part of a proof. Its conditions: none. -/
import Derived.Test.YtemkglelfeidhaaAmJFacts
import Derived.Test.YtemkglelfeidhaaAmC
import Derived.Test.YtemkglelfeidhaaAmD
import Derived.Test.YtemkglelfeidhaaAmJFoTrees
import Derived.Test.YtemkglelfeidhaaAmJUseYield
import Derived.Test.YtemkglelfeidhaaAmJLfLess
import Derived.Test.YtemkglelfeidhaaAmJLfRight
set_option linter.all false
namespace Go.Proofs.Ytemkglelfeidhaa
open Go.AM
set_option maxRecDepth 100000
def few (g : Gram) : Bool := decide (g.vars.length ≤ 8) && decide (g.terms.length ≤ 6) && decide (g.rules.length ≤ 24) && g.rules.all fun r => decide (r.right.length ≤ 8)
theorem few_gives {v : Value} {g : Gram} {n : Nat} {H : Heap} (hw : WF n H) (hg : RG H v g) (wg : WG g) :
    Gives Try.prog 8 [v] n H fun v _ _ => v = .bool (few g) := by
  obtain ⟨pt, pv, pr, rfl, ht, hv, hr⟩ := hg
  refine Gives.of orders ok8 (Nat.le_of_ble_eq_true rfl) ?_
  have hk := Kp.new n H (.cells (gcells pt pv pr g) 25 true)
  replace hr := hr.mono hw hk
  have hb := hset_at H n (.cells (gcells pt pv pr g) 25 true)
  repeat (first | apply WK.seq | apply WK.block | apply WK.skipSeq | apply WK.skipBlock | apply WK.retSeq | apply WK.retBlock | apply WK.exitSeq | apply WK.exitHere | refine WK.exitOn rfl ?_)
  (refine WK.rgn ?_ ?_; kernel_rfl; simp (config := { maxSteps := 1000000 }) only [SS, forall_const, wx, tguard, acallee, top, tval, fput, tor, vsh, vbin, tload, tload2, tload3, tidx, tidx2, tidx3, tfa, tfa2, tlen2, tlen3, tpick, tbox, one, Int.reduceEq, Int.reduceNeg, Nat.reduceGT, Nat.reduceLT, Nat.reduceLeDiff, Nat.reduceEqDiff, ↓reduceIte, reduceCtorEq, Int.reduceToNat, Int.reduceLE, Int.reduceLT, Nat.reduceAdd, Nat.reduceMul, abox, box_cells, box_one, ff_8])
  repeat (first | apply WK.seq | apply WK.block | apply WK.skipSeq | apply WK.skipBlock | apply WK.retSeq | apply WK.retBlock | apply WK.exitSeq | apply WK.exitHere | refine WK.exitOn rfl ?_)
  generalize hset H n (.cells (gcells pt pv pr g) 25 true) = H1 at *
  by_cases h1 : (8 : Int) < g.vars.length
  · repeat (first | apply WK.seq | apply WK.block | apply WK.skipSeq | apply WK.skipBlock | apply WK.retSeq | apply WK.retBlock | apply WK.exitSeq | apply WK.exitHere | refine WK.exitOn rfl ?_ | ((first | (refine WK.rgn ?_ ?_; kernel_rfl) | refine AtCall.now ?_); simp (config := { maxSteps := 1000000 }) only [SS, forall_const, wx, tguard, acallee, top, tval, fput, tor, vsh, vbin, tload, tload2, tload3, tidx, tidx2, tidx3, tfa, tfa2, tlen2, tlen3, tpick, tbox, one, Int.reduceEq, Int.reduceNeg, Nat.reduceGT, Nat.reduceLT, Nat.reduceLeDiff, Nat.reduceEqDiff, ↓reduceIte, reduceCtorEq, Int.reduceToNat, Int.reduceLE, Int.reduceLT, Nat.reduceAdd, Nat.reduceMul, hb, h1, gc_1, ff_8]) | (refine WK.condT ?_ ?_; focus (simp only [ev_tmp, ev_const, fset_apply, Nat.reduceEqDiff, ↓reduceIte, decide_true, decide_false, hb, h1, gc_1, ff_8]; done)) | (refine WK.condF ?_ ?_; focus (simp only [ev_tmp, ev_const, fset_apply, Nat.reduceEqDiff, ↓reduceIte, decide_true, decide_false, hb, h1, gc_1, ff_8]; done)))
    (first | refine WK.retNil ⟨Or.inr rfl, _, rfl, ?_, ?_⟩ | refine WK.skipNil ⟨Or.inl rfl, _, rfl, ?_, ?_⟩)
    · exact hk.keep
    · simp only [packed, fset_apply, Nat.reduceEqDiff, ↓reduceIte, List.getD_cons_zero, List.getD_cons_succ, few, ff_8]
      simp; omega
  by_cases h2 : (6 : Int) < g.terms.length
  · repeat (first | apply WK.seq | apply WK.block | apply WK.skipSeq | apply WK.skipBlock | apply WK.retSeq | apply WK.retBlock | apply WK.exitSeq | apply WK.exitHere | refine WK.exitOn rfl ?_ | ((first | (refine WK.rgn ?_ ?_; kernel_rfl) | refine AtCall.now ?_); simp (config := { maxSteps := 1000000 }) only [SS, forall_const, wx, tguard, acallee, top, tval, fput, tor, vsh, vbin, tload, tload2, tload3, tidx, tidx2, tidx3, tfa, tfa2, tlen2, tlen3, tpick, tbox, one, Int.reduceEq, Int.reduceNeg, Nat.reduceGT, Nat.reduceLT, Nat.reduceLeDiff, Nat.reduceEqDiff, ↓reduceIte, reduceCtorEq, Int.reduceToNat, Int.reduceLE, Int.reduceLT, Nat.reduceAdd, Nat.reduceMul, hb, h1, h2, gc_1, gc_0, ff_8]) | (refine WK.condT ?_ ?_; focus (simp only [ev_tmp, ev_const, fset_apply, Nat.reduceEqDiff, ↓reduceIte, decide_true, decide_false, hb, h1, h2, gc_1, gc_0, ff_8]; done)) | (refine WK.condF ?_ ?_; focus (simp only [ev_tmp, ev_const, fset_apply, Nat.reduceEqDiff, ↓reduceIte, decide_true, decide_false, hb, h1, h2, gc_1, gc_0, ff_8]; done)))
    (first | refine WK.retNil ⟨Or.inr rfl, _, rfl, ?_, ?_⟩ | refine WK.skipNil ⟨Or.inl rfl, _, rfl, ?_, ?_⟩)
    · exact hk.keep
    · simp only [packed, fset_apply, Nat.reduceEqDiff, ↓reduceIte, List.getD_cons_zero, List.getD_cons_succ, few, ff_8]
      simp; omega
  by_cases h3 : (24 : Int) < g.rules.length
  · repeat (first | apply WK.seq | apply WK.block | apply WK.skipSeq | apply WK.skipBlock | apply WK.retSeq | apply WK.retBlock | apply WK.exitSeq | apply WK.exitHere | refine WK.exitOn rfl ?_ | ((first | (refine WK.rgn ?_ ?_; kernel_rfl) | refine AtCall.now ?_); simp (config := { maxSteps := 1000000 }) only [SS, forall_const, wx, tguard, acallee, top, tval, fput, tor, vsh, vbin, tload, tload2, tload3, tidx, tidx2, tidx3, tfa, tfa2, tlen2, tlen3, tpick, tbox, one, Int.reduceEq, Int.reduceNeg, Nat.reduceGT, Nat.reduceLT, Nat.reduceLeDiff, Nat.reduceEqDiff, ↓reduceIte, reduceCtorEq, Int.reduceToNat, Int.reduceLE, Int.reduceLT, Nat.reduceAdd, Nat.reduceMul, hb, h1, h2, h3, gc_1, gc_0, gc_2, ff_8]) | (refine WK.condT ?_ ?_; focus (simp only [ev_tmp, ev_const, fset_apply, Nat.reduceEqDiff, ↓reduceIte, decide_true, decide_false, hb, h1, h2, h3, gc_1, gc_0, gc_2, ff_8]; done)) | (refine WK.condF ?_ ?_; focus (simp only [ev_tmp, ev_const, fset_apply, Nat.reduceEqDiff, ↓reduceIte, decide_true, decide_false, hb, h1, h2, h3, gc_1, gc_0, gc_2, ff_8]; done)))
    (first | refine WK.retNil ⟨Or.inr rfl, _, rfl, ?_, ?_⟩ | refine WK.skipNil ⟨Or.inl rfl, _, rfl, ?_, ?_⟩)
    · exact hk.keep
    · simp only [packed, fset_apply, Nat.reduceEqDiff, ↓reduceIte, List.getD_cons_zero, List.getD_cons_succ, few, ff_8]
      simp; omega
  repeat (first | apply WK.seq | apply WK.block | apply WK.skipSeq | apply WK.skipBlock | apply WK.retSeq | apply WK.retBlock | apply WK.exitSeq | apply WK.exitHere | refine WK.exitOn rfl ?_ | ((first | (refine WK.rgn ?_ ?_; kernel_rfl) | refine AtCall.now ?_); simp (config := { maxSteps := 1000000 }) only [SS, forall_const, wx, tguard, acallee, top, tval, fput, tor, vsh, vbin, tload, tload2, tload3, tidx, tidx2, tidx3, tfa, tfa2, tlen2, tlen3, tpick, tbox, one, Int.reduceEq, Int.reduceNeg, Nat.reduceGT, Nat.reduceLT, Nat.reduceLeDiff, Nat.reduceEqDiff, ↓reduceIte, reduceCtorEq, Int.reduceToNat, Int.reduceLE, Int.reduceLT, Nat.reduceAdd, Nat.reduceMul, hb, h1, h2, h3, gc_1, gc_0, gc_2, ff_8]) | (refine WK.condT ?_ ?_; focus (simp only [ev_tmp, ev_const, fset_apply, Nat.reduceEqDiff, ↓reduceIte, decide_true, decide_false, hb, h1, h2, h3, gc_1, gc_0, gc_2, ff_8]; done)) | (refine WK.condF ?_ ?_; focus (simp only [ev_tmp, ev_const, fset_apply, Nat.reduceEqDiff, ↓reduceIte, decide_true, decide_false, hb, h1, h2, h3, gc_1, gc_0, gc_2, ff_8]; done)))
  refine WK.loop (fun k s => ∃ i, s.n = n + 1 ∧ s.H = H1 ∧ s.f 1 = .pointer (some ⟨n, 0, none⟩) ∧ s.f 3 = .int .i64 (i : Nat) ∧ i ≤ g.rules.length ∧ k = g.rules.length - i ∧ ∀ r ∈ g.rules.take i, r.right.length ≤ 8) g.rules.length ?_ ?_
  · exact ⟨0, rfl, rfl, rfl, rfl, Nat.zero_le _, rfl, by simp⟩
  rintro k ⟨f, n', H'⟩ ⟨i, rfl, rfl, f1, f3, hi, rfl, hall⟩ ih
  simp only at f1 f3 ih hr hb
  by_cases hir : i < g.rules.length
  · obtain ⟨x, k, cs, ty, own, p, rfl, hx, c0, c1, c2, hp⟩ := hr.at hir
    by_cases h8 : (8 : Int) < g.rules[i].right.length
    · repeat (first | apply WK.seq | apply WK.block | apply WK.skipSeq | apply WK.skipBlock | apply WK.retSeq | apply WK.retBlock | apply WK.exitSeq | apply WK.exitHere | refine WK.exitOn rfl ?_ | ((first | (refine WK.rgn ?_ ?_; kernel_rfl) | refine AtCall.now ?_); simp (config := { maxSteps := 1000000 }) only [SS, forall_const, wx, tguard, acallee, top, tval, fput, tor, vsh, vbin, tload, tload2, tload3, tidx, tidx2, tidx3, tfa, tfa2, tlen2, tlen3, tpick, tbox, one, Int.reduceEq, Int.reduceNeg, Nat.reduceGT, Nat.reduceLT, Nat.reduceLeDiff, Nat.reduceEqDiff, ↓reduceIte, reduceCtorEq, Int.reduceToNat, Int.reduceLE, Int.reduceLT, Nat.reduceAdd, Nat.reduceMul, f1, f3, hb, gc_2, hir, hx, c1, h8, ff_8]) | (refine WK.condT ?_ ?_; focus (simp only [ev_tmp, ev_const, fset_apply, Nat.reduceEqDiff, ↓reduceIte, decide_true, decide_false, f1, f3, hb, gc_2, hir, hx, c1, h8, ff_8]; done)) | (refine WK.condF ?_ ?_; focus (simp only [ev_tmp, ev_const, fset_apply, Nat.reduceEqDiff, ↓reduceIte, decide_true, decide_false, f1, f3, hb, gc_2, hir, hx, c1, h8, ff_8]; done)))
      (first | refine WK.retNil ⟨Or.inr rfl, _, rfl, ?_, ?_⟩ | refine WK.skipNil ⟨Or.inl rfl, _, rfl, ?_, ?_⟩)
      · exact hk.keep
      · simp only [packed, fset_apply, Nat.reduceEqDiff, ↓reduceIte, List.getD_cons_zero, List.getD_cons_succ, few, ff_8]
        have : g.rules.all (fun r => decide (r.right.length ≤ 8)) = false := by
          rw [List.all_eq_false]; exact ⟨g.rules[i], List.getElem_mem hir, by simp; omega⟩
        rw [this]; simp
    · repeat (first | apply WK.seq | apply WK.block | apply WK.skipSeq | apply WK.skipBlock | apply WK.retSeq | apply WK.retBlock | apply WK.exitSeq | apply WK.exitHere | refine WK.exitOn rfl ?_ | ((first | (refine WK.rgn ?_ ?_; kernel_rfl) | refine AtCall.now ?_); simp (config := { maxSteps := 1000000 }) only [SS, forall_const, wx, tguard, acallee, top, tval, fput, tor, vsh, vbin, tload, tload2, tload3, tidx, tidx2, tidx3, tfa, tfa2, tlen2, tlen3, tpick, tbox, one, Int.reduceEq, Int.reduceNeg, Nat.reduceGT, Nat.reduceLT, Nat.reduceLeDiff, Nat.reduceEqDiff, ↓reduceIte, reduceCtorEq, Int.reduceToNat, Int.reduceLE, Int.reduceLT, Nat.reduceAdd, Nat.reduceMul, f1, f3, hb, gc_2, hir, hx, c1, h8, ff_8]) | (refine WK.condT ?_ ?_; focus (simp only [ev_tmp, ev_const, fset_apply, Nat.reduceEqDiff, ↓reduceIte, decide_true, decide_false, f1, f3, hb, gc_2, hir, hx, c1, h8, ff_8]; done)) | (refine WK.condF ?_ ?_; focus (simp only [ev_tmp, ev_const, fset_apply, Nat.reduceEqDiff, ↓reduceIte, decide_true, decide_false, f1, f3, hb, gc_2, hir, hx, c1, h8, ff_8]; done)))
      refine ih (g.rules.length - (i + 1)) (by omega) _ ⟨i + 1, rfl, rfl, f1, ?_, hir, rfl, ?_⟩
      · simp only [packed, fset_apply, Nat.reduceEqDiff, ↓reduceIte, List.getD_cons_zero, List.getD_cons_succ, ff_8]
        have := wg.rules; unfold maxL at this
        rw [wrap_in (by omega) (by omega)]; rfl
      · intro r hr'
        rw [List.take_succ_eq_append_getElem hir, List.mem_append] at hr'
        rcases hr' with hr' | hr'
        · exact hall r hr'
        · simp at hr'; subst hr'; omega
  · repeat (first | apply WK.seq | apply WK.block | apply WK.skipSeq | apply WK.skipBlock | apply WK.retSeq | apply WK.retBlock | apply WK.exitSeq | apply WK.exitHere | refine WK.exitOn rfl ?_ | ((first | (refine WK.rgn ?_ ?_; kernel_rfl) | refine AtCall.now ?_); simp (config := { maxSteps := 1000000 }) only [SS, forall_const, wx, tguard, acallee, top, tval, fput, tor, vsh, vbin, tload, tload2, tload3, tidx, tidx2, tidx3, tfa, tfa2, tlen2, tlen3, tpick, tbox, one, Int.reduceEq, Int.reduceNeg, Nat.reduceGT, Nat.reduceLT, Nat.reduceLeDiff, Nat.reduceEqDiff, ↓reduceIte, reduceCtorEq, Int.reduceToNat, Int.reduceLE, Int.reduceLT, Nat.reduceAdd, Nat.reduceMul, f1, f3, hb, gc_2, hir, ff_8]) | (refine WK.condT ?_ ?_; focus (simp only [ev_tmp, ev_const, fset_apply, Nat.reduceEqDiff, ↓reduceIte, decide_true, decide_false, f1, f3, hb, gc_2, hir, ff_8]; done)) | (refine WK.condF ?_ ?_; focus (simp only [ev_tmp, ev_const, fset_apply, Nat.reduceEqDiff, ↓reduceIte, decide_true, decide_false, f1, f3, hb, gc_2, hir, ff_8]; done)))
    (first | refine WK.retNil ⟨Or.inr rfl, _, rfl, ?_, ?_⟩ | refine WK.skipNil ⟨Or.inl rfl, _, rfl, ?_, ?_⟩)
    · exact hk.keep
    · simp only [packed, fset_apply, Nat.reduceEqDiff, ↓reduceIte, List.getD_cons_zero, List.getD_cons_succ, few, ff_8]
      rw [List.take_of_length_le (by omega)] at hall
      have : g.rules.all (fun r => decide (r.right.length ≤ 8)) = true := by
        rw [List.all_eq_true]; exact fun r hr => by simpa using hall r hr
      rw [this]; simp; omega
end Go.Proofs.Ytemkglelfeidhaa

namespace Go.Proofs.Ytemkglelfeidhaa
open Go.AM Go.AM.Fo Go.RowKit
set_option maxRecDepth 100000
theorem ok_inG {g : Gram} (h : RightOK g) : InG g where
  left0 := fun r hr => by obtain ⟨i, hi, rfl⟩ := List.getElem_of_mem hr; exact (h.rule i hi).left0
  left1 := fun r hr => by obtain ⟨i, hi, rfl⟩ := List.getElem_of_mem hr; exact (h.rule i hi).left1
  right := fun r hr s hs => by obtain ⟨i, hi, rfl⟩ := List.getElem_of_mem hr; exact ((h.rule i hi).sym s hs).1
  rightT := fun r hr s hs => by obtain ⟨i, hi, rfl⟩ := List.getElem_of_mem hr; exact ((h.rule i hi).sym s hs).2
theorem ok_up {g : Gram} (h : RightOK g) : ∀ i j (hi : i < g.rules.length) (hj : j < g.rules.length), i ≤ j → g.rules[i].left ≤ g.rules[j].left := by
  intro i j hi hj hij
  induction j with
  | zero => have : i = 0 := by omega
            subst this; exact Int.le_refl _
  | succ j ih =>
    by_cases e : i = j + 1
    · subst e; exact Int.le_refl _
    · exact Int.le_trans (ih (by omega) (by omega)) ((h.rule (j + 1) hj).up j rfl _ (List.getElem?_eq_getElem (by omega)))
theorem ok_sgm {g : Gram} (h : RightOK g) (hf : few g = true) : Sgm g := by
  unfold few at hf
  simp only [Bool.and_eq_true, decide_eq_true_eq, List.all_eq_true] at hf
  exact ⟨ok_inG h, hf.1.2, hf.1.1.1, hf.2, hf.1.1.2, ok_up h⟩
theorem yield_dv {g : Gram} (hg : InG g) {form rules : List Int} (h : (yieldS g form rules).2 = 0) (hl : rules.length ≤ 4096) : Dv g form rules (yieldS g form rules).1 := by
  have eL : replayL g form rules = replayS g form rules 0 := by unfold replayL; rw [if_neg (by omega)]
  unfold yieldS at h ⊢
  rw [eL] at h ⊢
  have hry := fun t q => replay_dv hg rules form t 0 q
  generalize hR : replayS g form rules 0 = R at *
  obtain ⟨out, q, e⟩ := R
  simp only at h ⊢
  by_cases he : e = 0
  · subst he
    rw [if_pos rfl] at h ⊢
    by_cases hp : 0 ≤ leadP out
    · rw [if_pos hp] at h; cases h
    · rw [if_neg hp]
      have hall : ∀ s ∈ out, s < 0 := by
        unfold leadP at hp
        by_cases hd : out.dropWhile AM.neg = []
        · have e := List.takeWhile_append_dropWhile (p := AM.neg) (l := out)
          rw [hd, List.append_nil] at e
          intro s hs
          rw [← e] at hs
          exact takeWhile_neg hs
        · rw [if_neg hd] at hp; omega
      obtain ⟨e1, _⟩ := tw_all hall
      unfold leadV
      rw [e1]
      exact hry out q rfl hall
  · rw [if_neg he] at h; exact absurd h he
theorem dv_yield {g : Gram} (hg : InG g) {d w : List Int} (h : Dv g [0] d w) (hl : d.length ≤ 4096) : yieldS g [0] d = (w, 0) := by
  have hr := h.replay hg [] [] [] 0 (fun s hs => by cases hs)
  simp only [List.nil_append, List.append_nil, replayS] at hr
  have eL : replayL g [0] d = (trm w, 0, 0) := by unfold replayL; rw [if_neg (by omega)]; exact hr
  have hn := trm_neg (h.pos hg)
  obtain ⟨e1, e2⟩ := tw_all hn
  have hp : leadP (trm w) = -1 := by unfold leadP; rw [e2, if_pos rfl]
  have hv : leadV (trm w) = w := by unfold leadV; rw [e1]; exact trm_trm w
  unfold yieldS
  rw [eL, if_pos rfl, if_neg (by rw [hp]; decide), hv]
theorem less_self3 : ∀ a : List Int, less a a = false
  | [] => rfl
  | x :: a => by show (if x = x then less a a else decide (x < x)) = false; rw [if_pos rfl, less_self3 a]
theorem less_tri3 : ∀ a b : List Int, less a b = true ∨ a = b ∨ less b a = true
  | [], [] => .inr (.inl rfl)
  | [], _ :: _ => .inl rfl
  | _ :: _, [] => .inr (.inr rfl)
  | x :: a, y :: b => by
    show (if x = y then less a b else decide (x < y)) = true ∨ _ ∨ (if y = x then less b a else decide (y < x)) = true
    by_cases e : x = y
    · subst e
      rw [if_pos rfl, if_pos rfl]
      rcases less_tri3 a b with h | h | h
      · exact .inl h
      · exact .inr (.inl (by rw [h]))
      · exact .inr (.inr h)
    · rw [if_neg e, if_neg (fun h => e h.symm)]
      rcases Int.lt_or_gt_of_ne e with h | h
      · exact .inl (by simpa using h)
      · exact .inr (.inr (by simpa using h))
theorem same_iff3 {a b : List Int} : same a b = true ↔ a = b := by
  unfold same
  constructor
  · intro h
    simp only [Bool.and_eq_true, Bool.not_eq_true'] at h
    rcases less_tri3 a b with h1 | h1 | h1
    · rw [h.1] at h1; cases h1
    · exact h1
    · rw [h.2] at h1; cases h1
  · rintro rfl; rw [less_self3]; rfl
end Go.Proofs.Ytemkglelfeidhaa

namespace Go.Proofs.Ytemkglelfeidhaa
open Go.AM Go.AM.Fo Go.RowKit
set_option maxRecDepth 100000
def sumsG : Gram := ⟨[⟨#[97]⟩, ⟨#[98]⟩], [⟨#[115]⟩], [⟨0, [0, -1, 0], 0⟩, ⟨0, [-2], 0⟩]⟩
theorem sums_wg : WG sumsG where
  terms := by unfold sumsG maxL; simp
  vars := by unfold sumsG maxL; simp
  rules := by unfold sumsG maxL; simp
  left := by unfold sumsG inI; simp
  right := by unfold sumsG inI maxL; simp
  weight := fun r hr => by
    have : r = ⟨0, [0, -1, 0], 0⟩ ∨ r = ⟨0, [-2], 0⟩ := by simpa [sumsG] using hr
    rcases this with rfl | rfl <;> exact Nat.pow_pos (by omega)
  size := fun s hs => by
    have h : s = ⟨#[97]⟩ ∨ s = ⟨#[98]⟩ ∨ s = ⟨#[115]⟩ := by simpa [sumsG] using hs
    rcases h with rfl | rfl | rfl <;> exact Nat.le_of_ble_eq_true rfl
theorem sums_ok : RightOK sumsG where
  vars1 := by decide
  vars := by decide
  terms := by decide
  rules := by decide
  rule := fun i h => by
    have h2 : i < 2 := h
    rcases (by omega : i = 0 ∨ i = 1) with rfl | rfl
    · show RuleOK sumsG 0 ⟨0, [0, -1, 0], 0⟩
      exact ⟨by decide, by decide, by decide, by decide, fun q e => by omega⟩
    · show RuleOK sumsG 1 ⟨0, [-2], 0⟩
      refine ⟨by decide, by decide, by decide, by decide, fun q e r' hr => ?_⟩
      obtain rfl : q = 0 := by omega
      cases hr
      decide
  count := fun v hv => by
    have h2 : v < 1 := hv
    obtain rfl : v = 0 := by omega
    decide
theorem sums_sgm : Sgm sumsG := ok_sgm sums_ok (by decide)
theorem sums_s : Sums sumsG := ⟨rfl⟩
theorem load_gr {H : Heap} {x : Nat} {cs : List Value} {ty : TypeId} {own : Bool} (h : H x = .cells cs ty own) (hl : cs.length = 3) : (aload Try.prog 25 H (.pointer (some ⟨x, 0, none⟩))) = some { v := .agg cs.toArray, rd := [x] } := by
  have h1 : aggT Try.prog 25 = some true := by kernel_rfl
  have h2 : Try.prog.cellsOf 25 = 3 := by kernel_rfl
  unfold aload
  simp only [h, h1, h2]
  rw [if_pos (by omega), List.drop_zero, List.take_of_length_le (by omega)]
theorem res_gr {f : Fr} {n : Nat} {H : Heap} {x : Nat} {cs : List Value} {ty : TypeId} {own : Bool} (hf : f 0 = .pointer (some ⟨x, 0, none⟩)) (h : H x = .cells cs ty own) (hl : cs.length = 3) : aresultsL Try.prog ⟨f, n, H⟩ Try.f19.results.toList = some [.agg cs.toArray] := by
  have e : Try.f19.results.toList = [.cell 0 25] := rfl
  rw [e]
  unfold aresultsL aresult
  simp only [hf, load_gr h hl]
  rfl
set_option maxHeartbeats 4000000 in
theorem sums_gives {n : Nat} {H : Heap} : Gives Try.prog 19 [] n H fun v n' H' => RG H' v sumsG := by
  refine Gives.of orders ok19 (Nat.le_of_ble_eq_true rfl) ?_
  have r2 : ∀ z, rep 2 z = z ++ (z ++ []) := fun _ => rfl
  have r3 : ∀ z, rep 3 z = z ++ (z ++ (z ++ [])) := fun _ => rfl
  have v1 : ∀ a b c : Option Addr, ∀ k l m k' l' m' : Nat, vcells (.agg #[Value.slice a k k', .slice b l l', .slice c m m']) = [.slice a k k', .slice b l l', .slice c m m'] := fun _ _ _ _ _ _ _ _ _ => rfl
  have v2 : ∀ (a : Int) (p : Option Addr) (k l w : Nat), vcells (.agg #[Value.int .i64 a, .slice p k l, .float .f64 w]) = [.int .i64 a, .slice p k l, .float .f64 w] := fun _ _ _ _ _ => rfl
  have v3 : ∀ (p : Option Addr) (k l : Nat), vcells (.slice p k l) = [.slice p k l] := fun _ _ _ => rfl
  repeat (first | apply WK.seq | apply WK.block | apply WK.skipSeq | apply WK.skipBlock | apply WK.retSeq | apply WK.retBlock | apply WK.exitSeq | apply WK.exitHere | refine WK.exitOn rfl ?_ | ((first | (refine WK.rgn ?_ ?_; kernel_rfl) | refine AtCall.now ?_); simp (config := { maxSteps := 1000000 }) only [SS, forall_const, wx, tguard, acallee, top, tval, fput, tstore, tstore2, tstore3, Go.AM.splice, one, talloc, still, still1, flat1, tbuild, afill, tbs, tbs2, Int.reduceEq, Int.reduceNeg, Nat.reduceGT, Nat.reduceLT, Nat.reduceLeDiff, Nat.reduceEqDiff, ↓reduceIte, reduceCtorEq, Int.reduceToNat, Int.reduceLE, Int.reduceLT, Nat.reduceAdd, Nat.reduceMul, hset_at, r2, r3, v1, v2, v3, List.length_cons, List.length_nil, List.set_cons_zero, List.set_cons_succ, List.cons_append, List.nil_append, List.take_succ_cons, List.take_zero, List.drop_succ_cons, List.drop_zero, List.drop_nil, List.append_nil, ff_19]) | (refine WK.condT ?_ ?_; focus (simp only [ev_tmp, ev_const, fset_apply, Nat.reduceEqDiff, ↓reduceIte, decide_true, decide_false, hset_at, r2, r3, v1, v2, v3, List.length_cons, List.length_nil, List.set_cons_zero, List.set_cons_succ, List.cons_append, List.nil_append, List.take_succ_cons, List.take_zero, List.drop_succ_cons, List.drop_zero, List.drop_nil, List.append_nil, ff_19]; done)) | (refine WK.condF ?_ ?_; focus (simp only [ev_tmp, ev_const, fset_apply, Nat.reduceEqDiff, ↓reduceIte, decide_true, decide_false, hset_at, r2, r3, v1, v2, v3, List.length_cons, List.length_nil, List.set_cons_zero, List.set_cons_succ, List.cons_append, List.nil_append, List.take_succ_cons, List.take_zero, List.drop_succ_cons, List.drop_zero, List.drop_nil, List.append_nil, ff_19]; done)))
  have l6 : ∀ (a b c : Value), 3 ≤ [a, b, c].length := fun _ _ _ => Nat.le_refl 3
  have qn : ∀ (k : Nat), n < k → ∀ (H : Heap) ob, hset H k ob n = H n := fun k hk H ob => hset_ne _ _ _ (by omega)
  have h1 := qn (n + 1) (by omega)
  have h2 := qn (n + 1 + 1) (by omega)
  have h3 := qn (n + 1 + 1 + 1) (by omega)
  have h4 := qn (n + 1 + 1 + 1 + 1) (by omega)
  have h5 := qn (n + 1 + 1 + 1 + 1 + 1) (by omega)
  simp (config := { maxSteps := 1000000 }) only [SS, forall_const, wx, tguard, acallee, top, tval, fput, tstore, tstore2, tstore3, Go.AM.splice, one, talloc, still, still1, flat1, tbuild, afill, tbs, tbs2, Int.reduceEq, Int.reduceNeg, Nat.reduceGT, Nat.reduceLT, Nat.reduceLeDiff, Nat.reduceEqDiff, ↓reduceIte, reduceCtorEq, Int.reduceToNat, Int.reduceLE, Int.reduceLT, Nat.reduceAdd, Nat.reduceMul, h1, h2, h3, h4, h5, hset_at, l6, List.set_cons_zero, List.set_cons_succ, ff_19]
  repeat (first | apply WK.seq | apply WK.block | apply WK.skipSeq | apply WK.skipBlock | apply WK.retSeq | apply WK.retBlock | apply WK.exitSeq | apply WK.exitHere | refine WK.exitOn rfl ?_)
  refine WK.retNil ⟨Or.inr rfl, _, res_gr (x := n) ?_ (hset_at _ _ _) rfl, fun z hz => ?_, ?_⟩
  · simp only [packed, fset_apply, Nat.reduceEqDiff, ↓reduceIte, List.getD_cons_zero, List.getD_cons_succ, ff_19]
  · exact (hset_ne _ _ _ (by omega)).trans ((hset_ne _ _ _ (by omega)).trans ((hset_ne _ _ _ (by omega)).trans ((hset_ne _ _ _ (by omega)).trans ((hset_ne _ _ _ (by omega)).trans ((hset_ne _ _ _ (by omega)).trans (hset_ne _ _ _ (by omega)))))))
  · refine ⟨some ⟨n + 1, 0, none⟩, some ⟨n + 1 + 1, 0, none⟩, some ⟨n + 1 + 1 + 1 + 1 + 1, 0, none⟩, rfl, fun _ => ⟨n + 1, 0, [.string ⟨#[97]⟩, .string ⟨#[98]⟩], 9, true, rfl, ?_, fun i y e => ?_⟩, fun _ => ⟨n + 1 + 1, 0, [.string ⟨#[115]⟩], 9, true, rfl, ?_, fun i y e => ?_⟩, fun _ => ⟨n + 1 + 1 + 1 + 1 + 1, 0, [.int .i64 (Int.ofNat 0), .slice (some ⟨n + 1 + 1 + 1, 0, none⟩) 3 3, .float .f64 0, .int .i64 (Int.ofNat 0), .slice (some ⟨n + 1 + 1 + 1 + 1, 0, none⟩) 1 1, .float .f64 0], 49, true, rfl, ?_, fun i r e => ?_⟩⟩
    · exact (hset_ne _ _ _ (by omega)).trans ((hset_ne _ _ _ (by omega)).trans ((hset_ne _ _ _ (by omega)).trans ((hset_ne _ _ _ (by omega)).trans ((hset_ne _ _ _ (by omega)).trans (hset_at _ _ _)))))
    · match i, e with
      | 0, e => cases e; rfl
      | 1, e => cases e; rfl
    · exact (hset_ne _ _ _ (by omega)).trans ((hset_ne _ _ _ (by omega)).trans ((hset_ne _ _ _ (by omega)).trans ((hset_ne _ _ _ (by omega)).trans (hset_at _ _ _))))
    · match i, e with
      | 0, e => cases e; rfl
    · exact (hset_ne _ _ _ (by omega)).trans (hset_at _ _ _)
    · match i, e with
      | 0, e =>
        cases e
        refine ⟨some ⟨n + 1 + 1 + 1, 0, none⟩, rfl, rfl, rfl, .inr ⟨n + 1 + 1 + 1, 0, [.int .i64 0, .int .i64 (-1), .int .i64 0], 3, true, rfl, ?_, Nat.le_refl 3, fun j y e => ?_⟩⟩
        · exact (hset_ne _ _ _ (by omega)).trans ((hset_ne _ _ _ (by omega)).trans ((hset_ne _ _ _ (by omega)).trans (hset_at _ _ _)))
        · match j, e with
          | 0, e => cases e; rfl
          | 1, e => cases e; rfl
          | 2, e => cases e; rfl
      | 1, e =>
        cases e
        refine ⟨some ⟨n + 1 + 1 + 1 + 1, 0, none⟩, rfl, rfl, rfl, .inr ⟨n + 1 + 1 + 1 + 1, 0, [.int .i64 (-2)], 3, true, rfl, ?_, Nat.le_refl 1, fun j y e => ?_⟩⟩
        · exact (hset_ne _ _ _ (by omega)).trans ((hset_ne _ _ _ (by omega)).trans (hset_at _ _ _))
        · match j, e with
          | 0, e => cases e; rfl
end Go.Proofs.Ytemkglelfeidhaa
