/- A part of a proof. Its conditions: none. -/
import Derived.Test.YtemkglelfeidhaaAmJFacts
import Derived.Test.YtemkglelfeidhaaAmC
import Derived.Test.YtemkglelfeidhaaAmD
import Derived.Test.YtemkglelfeidhaaAmJFoTrees
import Derived.Test.YtemkglelfeidhaaAmJUseYield
import Derived.Test.YtemkglelfeidhaaAmJLfLess
import Derived.Test.YtemkglelfeidhaaAmJLfLay
set_option linter.all false
namespace Go.Proofs.Ytemkglelfeidhaa
open Go.AM
set_option maxRecDepth 100000
def few (g : Gram) : Bool := decide (g.vars.length ≤ 8) && decide (g.terms.length ≤ 6) && decide (g.rules.length ≤ 24) && g.rules.all fun r => decide (r.right.length ≤ 8)
theorem few_gives {v : Value} {g : Gram} {n : Nat} {H : Heap} (hw : WF n H) (hg : RG H v g) (wg : WG g) :
    Gives Try.prog 8 [v] n H fun v _ _ => v = .bool (few g) := by
  obtain ⟨pt, pv, pr, rfl, ht, hv, hr⟩ := hg
  refine Gives.of orders ok8 (Nat.le_of_ble_eq_true rfl) ?_
  have hk := Kp.new n H (.cells (gcells pt pv pr g) 25 true)
  replace hr := hr.mono hw hk
  have hb := hset_at H n (.cells (gcells pt pv pr g) 25 true)
  repeat (first | refine qqn rfl ?_)
  (refine WK.rgn ?_ ?_; kernel_rfl; simp (config := {maxSteps:=999999}) only [SS, qx0, forall_const, simprocAttr, abox, box_cells, box_one, ff_8])
  repeat (first | refine qqn rfl ?_)
  generalize hset H n (.cells (gcells pt pv pr g) 25 true) = H1 at *
  by_cases h1 : (8 : Int) < g.vars.length
  · repeat (first | refine qqn rfl ?_ | ((first | (refine WK.rgn ?_ ?_; kernel_rfl) | refine AtCall.now ?_); simp (config := {maxSteps:=999999}) only [SS, qx0, forall_const, simprocAttr, hb, h1, gc_1, ff_8]) | refine qqj rfl ?_ | refine qqk rfl ?_)
    (first | refine WK.retNil ⟨Or.inr rfl, _, rfl, ?_, ?_⟩ | refine WK.skipNil ⟨Or.inl rfl, _, rfl, ?_, ?_⟩)
    · exact hk.keep
    · simp only [packed, fset_apply, Nat.reduceEqDiff, ↓reduceIte, List.getD_cons_zero, List.getD_cons_succ, few, ff_8]
      simp; omega
  by_cases h2 : (6 : Int) < g.terms.length
  · repeat (first | refine qqn rfl ?_ | ((first | (refine WK.rgn ?_ ?_; kernel_rfl) | refine AtCall.now ?_); simp (config := {maxSteps:=999999}) only [SS, qx0, forall_const, simprocAttr, hb, h1, h2, gc_1, gc_0, ff_8]) | refine qqj rfl ?_ | refine qqk rfl ?_)
    (first | refine WK.retNil ⟨Or.inr rfl, _, rfl, ?_, ?_⟩ | refine WK.skipNil ⟨Or.inl rfl, _, rfl, ?_, ?_⟩)
    · exact hk.keep
    · simp only [packed, fset_apply, Nat.reduceEqDiff, ↓reduceIte, List.getD_cons_zero, List.getD_cons_succ, few, ff_8]
      simp; omega
  by_cases h3 : (24 : Int) < g.rules.length
  · repeat (first | refine qqn rfl ?_ | ((first | (refine WK.rgn ?_ ?_; kernel_rfl) | refine AtCall.now ?_); simp (config := {maxSteps:=999999}) only [SS, qx0, forall_const, simprocAttr, hb, h1, h2, h3, gc_1, gc_0, gc_2, ff_8]) | refine qqj rfl ?_ | refine qqk rfl ?_)
    (first | refine WK.retNil ⟨Or.inr rfl, _, rfl, ?_, ?_⟩ | refine WK.skipNil ⟨Or.inl rfl, _, rfl, ?_, ?_⟩)
    · exact hk.keep
    · simp only [packed, fset_apply, Nat.reduceEqDiff, ↓reduceIte, List.getD_cons_zero, List.getD_cons_succ, few, ff_8]
      simp; omega
  repeat (first | refine qqn rfl ?_ | ((first | (refine WK.rgn ?_ ?_; kernel_rfl) | refine AtCall.now ?_); simp (config := {maxSteps:=999999}) only [SS, qx0, forall_const, simprocAttr, hb, h1, h2, h3, gc_1, gc_0, gc_2, ff_8]) | refine qqj rfl ?_ | refine qqk rfl ?_)
  refine WK.loop (fun k s => ∃ i, s.n = n + 1 ∧ s.H = H1 ∧ s.f 1 = .pointer (some ⟨n, 0, none⟩) ∧ s.f 3 = .int .i64 (i : Nat) ∧ i ≤ g.rules.length ∧ k = g.rules.length - i ∧ ∀ r ∈ g.rules.take i, r.right.length ≤ 8) g.rules.length ?_ ?_
  · exact ⟨0, rfl, rfl, rfl, rfl, Nat.zero_le _, rfl, by simp⟩
  rintro k ⟨f, n', H'⟩ ⟨i, rfl, rfl, f1, f3, hi, rfl, hall⟩ ih
  simp only at f1 f3 ih hr hb
  by_cases hir : i < g.rules.length
  · obtain ⟨x, k, cs, ty, own, p, rfl, hx, c0, c1, c2, hp⟩ := hr.at hir
    by_cases h8 : (8 : Int) < g.rules[i].right.length
    · repeat (first | refine qqn rfl ?_ | ((first | (refine WK.rgn ?_ ?_; kernel_rfl) | refine AtCall.now ?_); simp (config := {maxSteps:=999999}) only [SS, qx0, forall_const, simprocAttr, f1, f3, hb, gc_2, hir, hx, c1, h8, ff_8]) | refine qqj rfl ?_ | refine qqk rfl ?_)
      (first | refine WK.retNil ⟨Or.inr rfl, _, rfl, ?_, ?_⟩ | refine WK.skipNil ⟨Or.inl rfl, _, rfl, ?_, ?_⟩)
      · exact hk.keep
      · simp only [packed, fset_apply, Nat.reduceEqDiff, ↓reduceIte, List.getD_cons_zero, List.getD_cons_succ, few, ff_8]
        have : g.rules.all (fun r => decide (r.right.length ≤ 8)) = false := by
          rw [List.all_eq_false]; exact ⟨g.rules[i], List.getElem_mem hir, by simp; omega⟩
        rw [this]; simp
    · repeat (first | refine qqn rfl ?_ | ((first | (refine WK.rgn ?_ ?_; kernel_rfl) | refine AtCall.now ?_); simp (config := {maxSteps:=999999}) only [SS, qx0, forall_const, simprocAttr, f1, f3, hb, gc_2, hir, hx, c1, h8, ff_8]) | refine qqj rfl ?_ | refine qqk rfl ?_)
      refine ih (g.rules.length - (i + 1)) (by omega) _ ⟨i + 1, rfl, rfl, f1, ?_, hir, rfl, ?_⟩
      · simp only [packed, fset_apply, Nat.reduceEqDiff, ↓reduceIte, List.getD_cons_zero, List.getD_cons_succ, ff_8]
        have := wg.rules; unfold maxL at this
        rw [wrap_in (by omega) (by omega)]; rfl
      · intro r hr'
        rw [List.take_succ_eq_append_getElem hir, List.mem_append] at hr'
        rcases hr' with hr' | hr'
        · exact hall r hr'
        · simp at hr'; subst hr'; omega
  · repeat (first | refine qqn rfl ?_ | ((first | (refine WK.rgn ?_ ?_; kernel_rfl) | refine AtCall.now ?_); simp (config := {maxSteps:=999999}) only [SS, qx0, forall_const, simprocAttr, f1, f3, hb, gc_2, hir, ff_8]) | refine qqj rfl ?_ | refine qqk rfl ?_)
    (first | refine WK.retNil ⟨Or.inr rfl, _, rfl, ?_, ?_⟩ | refine WK.skipNil ⟨Or.inl rfl, _, rfl, ?_, ?_⟩)
    · exact hk.keep
    · simp only [packed, fset_apply, Nat.reduceEqDiff, ↓reduceIte, List.getD_cons_zero, List.getD_cons_succ, few, ff_8]
      rw [List.take_of_length_le (by omega)] at hall
      have : g.rules.all (fun r => decide (r.right.length ≤ 8)) = true := by
        rw [List.all_eq_true]; exact fun r hr => by simpa using hall r hr
      rw [this]; simp; omega
end Go.Proofs.Ytemkglelfeidhaa

namespace Go.Proofs.Ytemkglelfeidhaa
open Go.AM Go.AM.Fo Go.RowKit
set_option maxRecDepth 100000
theorem ok_inG {g : Gram} (h : RightOK g) : InG g where
  left0 := fun r hr => by obtain ⟨i, hi, rfl⟩ := List.getElem_of_mem hr; exact (h.rule i hi).left0
  left1 := fun r hr => by obtain ⟨i, hi, rfl⟩ := List.getElem_of_mem hr; exact (h.rule i hi).left1
  right := fun r hr s hs => by obtain ⟨i, hi, rfl⟩ := List.getElem_of_mem hr; exact ((h.rule i hi).sym s hs).1
  rightT := fun r hr s hs => by obtain ⟨i, hi, rfl⟩ := List.getElem_of_mem hr; exact ((h.rule i hi).sym s hs).2
theorem ok_up {g : Gram} (h : RightOK g) : ∀ i j (hi : i < g.rules.length) (hj : j < g.rules.length), i ≤ j → g.rules[i].left ≤ g.rules[j].left := by
  intro i j hi hj hij
  induction j with
  | zero => have : i = 0 := by omega
            subst this; exact Int.le_refl _
  | succ j ih =>
    by_cases e : i = j + 1
    · subst e; exact Int.le_refl _
    · exact Int.le_trans (ih (by omega) (by omega)) ((h.rule (j + 1) hj).up j rfl _ (List.getElem?_eq_getElem (by omega)))
theorem ok_sgm {g : Gram} (h : RightOK g) (hf : few g = true) : Sgm g := by
  unfold few at hf
  simp only [Bool.and_eq_true, decide_eq_true_eq, List.all_eq_true] at hf
  exact ⟨ok_inG h, hf.1.2, hf.1.1.1, hf.2, hf.1.1.2, ok_up h⟩
theorem dv_yield {g : Gram} (hg : InG g) {d w : List Int} (h : Dv g [0] d w) (hl : d.length ≤ 4096) : yieldS g [0] d = (w, 0) := by
  have hr := h.replay hg [] [] [] 0 (fun s hs => by cases hs)
  simp only [List.nil_append, List.append_nil, replayS] at hr
  have eL : replayL g [0] d = (trm w, 0, 0) := by unfold replayL; rw [if_neg (by omega)]; exact hr
  have hn := trm_neg (h.pos hg)
  obtain ⟨e1, e2⟩ := tw_all hn
  have hp : leadP (trm w) = -1 := by unfold leadP; rw [e2, if_pos rfl]
  have hv : leadV (trm w) = w := by unfold leadV; rw [e1]; exact trm_trm w
  unfold yieldS
  rw [eL, if_pos rfl, if_neg (by rw [hp]; decide), hv]
theorem less_self3 : ∀ a : List Int, less a a = false
  | [] => rfl
  | x :: a => by show (if x = x then less a a else decide (x < x)) = false; rw [if_pos rfl, less_self3 a]
theorem less_tri3 : ∀ a b : List Int, less a b = true ∨ a = b ∨ less b a = true
  | [], [] => .inr (.inl rfl)
  | [], _ :: _ => .inl rfl
  | _ :: _, [] => .inr (.inr rfl)
  | x :: a, y :: b => by
    show (if x = y then less a b else decide (x < y)) = true ∨ _ ∨ (if y = x then less b a else decide (y < x)) = true
    by_cases e : x = y
    · subst e
      rw [if_pos rfl, if_pos rfl]
      rcases less_tri3 a b with h | h | h
      · exact .inl h
      · exact .inr (.inl (by rw [h]))
      · exact .inr (.inr h)
    · rw [if_neg e, if_neg (fun h => e h.symm)]
      rcases Int.lt_or_gt_of_ne e with h | h
      · exact .inl (by simpa using h)
      · exact .inr (.inr (by simpa using h))
theorem same_iff3 {a b : List Int} : same a b = true ↔ a = b := by
  unfold same
  constructor
  · intro h
    simp only [Bool.and_eq_true, Bool.not_eq_true'] at h
    rcases less_tri3 a b with h1 | h1 | h1
    · rw [h.1] at h1; cases h1
    · exact h1
    · rw [h.2] at h1; cases h1
  · rintro rfl; rw [less_self3]; rfl
end Go.Proofs.Ytemkglelfeidhaa

namespace Go.Proofs.Ytemkglelfeidhaa
open Go.AM Go.AM.Fo Go.RowKit
set_option maxRecDepth 100000
def sumsG : Gram := ⟨[⟨#[97]⟩, ⟨#[98]⟩], [⟨#[115]⟩], [⟨0, [0, -1, 0], 0⟩, ⟨0, [-2], 0⟩]⟩
theorem sums_wg : WG sumsG where
  terms := by unfold sumsG maxL; simp
  vars := by unfold sumsG maxL; simp
  rules := by unfold sumsG maxL; simp
  left := by unfold sumsG inI; simp
  right := by unfold sumsG inI maxL; simp
  weight := fun r hr => by
    have : r = ⟨0, [0, -1, 0], 0⟩ ∨ r = ⟨0, [-2], 0⟩ := by simpa [sumsG] using hr
    rcases this with rfl | rfl <;> exact Nat.pow_pos (by omega)
  size := fun s hs => by
    have h : s = ⟨#[97]⟩ ∨ s = ⟨#[98]⟩ ∨ s = ⟨#[115]⟩ := by simpa [sumsG] using hs
    rcases h with rfl | rfl | rfl <;> exact Nat.le_of_ble_eq_true rfl
theorem sums_ok : RightOK sumsG where
  vars1 := by decide
  vars := by decide
  terms := by decide
  rules := by decide
  rule := fun i h => by
    have h2 : i < 2 := h
    rcases (by omega : i = 0 ∨ i = 1) with rfl | rfl
    · show RuleOK sumsG 0 ⟨0, [0, -1, 0], 0⟩
      exact ⟨by decide, by decide, by decide, by decide, fun q e => by omega⟩
    · show RuleOK sumsG 1 ⟨0, [-2], 0⟩
      refine ⟨by decide, by decide, by decide, by decide, fun q e r' hr => ?_⟩
      obtain rfl : q = 0 := by omega
      cases hr
      decide
  count := fun v hv => by
    have h2 : v < 1 := hv
    obtain rfl : v = 0 := by omega
    decide
theorem sums_sgm : Sgm sumsG := ok_sgm sums_ok (by decide)
theorem sums_s : Sums sumsG := ⟨rfl⟩
theorem load_gr {H : Heap} {x : Nat} {cs : List Value} {ty : TypeId} {own : Bool} (h : H x = .cells cs ty own) (hl : cs.length = 3) : (aload Try.prog 25 H (.pointer (some ⟨x, 0, none⟩))) = some { v := .agg cs.toArray, rd := [x] } := by
  have h1 : aggT Try.prog 25 = some true := by kernel_rfl
  have h2 : Try.prog.cellsOf 25 = 3 := by kernel_rfl
  unfold aload
  simp only [h, h1, h2]
  rw [if_pos (by omega), List.drop_zero, List.take_of_length_le (by omega)]
theorem res_gr {f : Fr} {n : Nat} {H : Heap} {x : Nat} {cs : List Value} {ty : TypeId} {own : Bool} (hf : f 0 = .pointer (some ⟨x, 0, none⟩)) (h : H x = .cells cs ty own) (hl : cs.length = 3) : aresultsL Try.prog ⟨f, n, H⟩ Try.f19.results.toList = some [.agg cs.toArray] := by
  have e : Try.f19.results.toList = [.cell 0 25] := rfl
  rw [e]
  unfold aresultsL aresult
  simp only [hf, load_gr h hl]
  rfl
set_option maxHeartbeats 4000000 in
theorem sums_gives {n : Nat} {H : Heap} : Gives Try.prog 19 [] n H fun v n' H' => RG H' v sumsG := by
  refine Gives.of orders ok19 (Nat.le_of_ble_eq_true rfl) ?_
  have r2 : ∀ z, rep 2 z = z ++ (z ++ []) := fun _ => rfl
  have r3 : ∀ z, rep 3 z = z ++ (z ++ (z ++ [])) := fun _ => rfl
  have v1 : ∀ a b c : Option Addr, ∀ k l m k' l' m' : Nat, vcells (.agg #[Value.slice a k k', .slice b l l', .slice c m m']) = [.slice a k k', .slice b l l', .slice c m m'] := fun _ _ _ _ _ _ _ _ _ => rfl
  have v2 : ∀ (a : Int) (p : Option Addr) (k l w : Nat), vcells (.agg #[Value.int .i64 a, .slice p k l, .float .f64 w]) = [.int .i64 a, .slice p k l, .float .f64 w] := fun _ _ _ _ _ => rfl
  have v3 : ∀ (p : Option Addr) (k l : Nat), vcells (.slice p k l) = [.slice p k l] := fun _ _ _ => rfl
  repeat (first | refine qqn rfl ?_ | ((first | (refine WK.rgn ?_ ?_; kernel_rfl) | refine AtCall.now ?_); simp (config := {maxSteps:=999999}) only [SS, qg0, qgs, qga, qge, forall_const, Go.AM.splice, one, tbuild, simprocAttr, hset_at, r2, r3, v1, v2, v3, List.length_cons, List.length_nil, List.set_cons_zero, List.set_cons_succ, List.cons_append, List.nil_append, List.take_succ_cons, List.take_zero, List.drop_succ_cons, List.drop_zero, List.drop_nil, List.append_nil, ff_19]) | refine qqj rfl ?_ | refine qqk rfl ?_)
  have l6 : ∀ (a b c : Value), 3 ≤ [a, b, c].length := fun _ _ _ => Nat.le_refl 3
  have qn : ∀ (k : Nat), n < k → ∀ (H : Heap) ob, hset H k ob n = H n := fun k hk H ob => hset_ne _ _ _ (by omega)
  have h1 := qn (n + 1) (by omega)
  have h2 := qn (n + 1 + 1) (by omega)
  have h3 := qn (n + 1 + 1 + 1) (by omega)
  have h4 := qn (n + 1 + 1 + 1 + 1) (by omega)
  have h5 := qn (n + 1 + 1 + 1 + 1 + 1) (by omega)
  simp (config := {maxSteps:=999999}) only [SS, qg0, qgs, qga, qge, forall_const, Go.AM.splice, one, tbuild, simprocAttr, h1, h2, h3, h4, h5, hset_at, l6, List.set_cons_zero, List.set_cons_succ, ff_19]
  repeat (first | refine qqn rfl ?_)
  refine WK.retNil ⟨Or.inr rfl, _, res_gr (x := n) ?_ (hset_at _ _ _) rfl, fun z hz => ?_, ?_⟩
  · simp only [packed, fset_apply, Nat.reduceEqDiff, ↓reduceIte, List.getD_cons_zero, List.getD_cons_succ, ff_19]
  · exact (hset_ne _ _ _ (by omega)).trans ((hset_ne _ _ _ (by omega)).trans ((hset_ne _ _ _ (by omega)).trans ((hset_ne _ _ _ (by omega)).trans ((hset_ne _ _ _ (by omega)).trans ((hset_ne _ _ _ (by omega)).trans (hset_ne _ _ _ (by omega)))))))
  · refine ⟨some ⟨n + 1, 0, none⟩, some ⟨n + 1 + 1, 0, none⟩, some ⟨n + 1 + 1 + 1 + 1 + 1, 0, none⟩, rfl, fun _ => ⟨n + 1, 0, [.string ⟨#[97]⟩, .string ⟨#[98]⟩], 9, true, rfl, ?_, fun i y e => ?_⟩, fun _ => ⟨n + 1 + 1, 0, [.string ⟨#[115]⟩], 9, true, rfl, ?_, fun i y e => ?_⟩, fun _ => ⟨n + 1 + 1 + 1 + 1 + 1, 0, [.int .i64 (Int.ofNat 0), .slice (some ⟨n + 1 + 1 + 1, 0, none⟩) 3 3, .float .f64 0, .int .i64 (Int.ofNat 0), .slice (some ⟨n + 1 + 1 + 1 + 1, 0, none⟩) 1 1, .float .f64 0], 49, true, rfl, ?_, fun i r e => ?_⟩⟩
    · exact (hset_ne _ _ _ (by omega)).trans ((hset_ne _ _ _ (by omega)).trans ((hset_ne _ _ _ (by omega)).trans ((hset_ne _ _ _ (by omega)).trans ((hset_ne _ _ _ (by omega)).trans (hset_at _ _ _)))))
    · match i, e with
      | 0, e => cases e; rfl
      | 1, e => cases e; rfl
    · exact (hset_ne _ _ _ (by omega)).trans ((hset_ne _ _ _ (by omega)).trans ((hset_ne _ _ _ (by omega)).trans ((hset_ne _ _ _ (by omega)).trans (hset_at _ _ _))))
    · match i, e with
      | 0, e => cases e; rfl
    · exact (hset_ne _ _ _ (by omega)).trans (hset_at _ _ _)
    · match i, e with
      | 0, e =>
        cases e
        refine ⟨some ⟨n + 1 + 1 + 1, 0, none⟩, rfl, rfl, rfl, .inr ⟨n + 1 + 1 + 1, 0, [.int .i64 0, .int .i64 (-1), .int .i64 0], 3, true, rfl, ?_, Nat.le_refl 3, fun j y e => ?_⟩⟩
        · exact (hset_ne _ _ _ (by omega)).trans ((hset_ne _ _ _ (by omega)).trans ((hset_ne _ _ _ (by omega)).trans (hset_at _ _ _)))
        · match j, e with
          | 0, e => cases e; rfl
          | 1, e => cases e; rfl
          | 2, e => cases e; rfl
      | 1, e =>
        cases e
        refine ⟨some ⟨n + 1 + 1 + 1 + 1, 0, none⟩, rfl, rfl, rfl, .inr ⟨n + 1 + 1 + 1 + 1, 0, [.int .i64 (-2)], 3, true, rfl, ?_, Nat.le_refl 1, fun j y e => ?_⟩⟩
        · exact (hset_ne _ _ _ (by omega)).trans ((hset_ne _ _ _ (by omega)).trans (hset_at _ _ _))
        · match j, e with
          | 0, e => cases e; rfl
end Go.Proofs.Ytemkglelfeidhaa

namespace Go.Proofs.Ytemkglelfeidhaa
open Go.AM Go.AM.Fo Go.RowKit
set_option maxRecDepth 100000
theorem rs_new {H : Heap} {z : Nat} {l : List Int} (h : H z = .cells (l.map (Value.int .i64)) 3 true) : RS (Value.int .i64) H (some ⟨z, 0, none⟩) l :=
  .inr ⟨z, 0, _, _, _, rfl, h, by simp, fun i y e => by rw [Nat.zero_add, List.getElem?_map, e]; rfl⟩
theorem FI.rs {H : Heap} {N : Nat} {v : Value} {l : List Int} (h : FI H N v l) : ∃ z, v = .slice (some ⟨z, 0, none⟩) l.length l.length ∧ RS (Value.int .i64) H (some ⟨z, 0, none⟩) l := by
  obtain ⟨z, h1, _, h3⟩ := h
  exact ⟨z, h1, rs_new h3⟩
set_option maxHeartbeats 16000000 in
theorem alive_gives {n : Nat} {H : Heap} (hw : WF n H) : GivesD Try.prog 7 [] n H fun v _ _ => v = .bool true := by
  refine GivesD.of orders ok7 (Nat.le_of_ble_eq_true rfl) ?_
  have r5 : ∀ z, rep 5 z = z ++ (z ++ (z ++ (z ++ (z ++ [])))) := fun _ => rfl
  have r3 : ∀ z, rep 3 z = z ++ (z ++ (z ++ [])) := fun _ => rfl
  have ss := sums_s
  repeat (first | apply WKD.seq | apply WKD.block | apply WKD.skipSeq | apply WKD.skipBlock | apply WKD.retSeq | apply WKD.retBlock | apply WKD.exitSeq | apply WKD.exitHere | refine WKD.exitOn rfl ?_ | ((first | (refine WKD.rgn ?_ ?_; kernel_rfl) | refine AtCallY.now ?_); simp (config := {maxSteps:=999999}) only [SS, qx8, forall_const, yx_nil, yx_true, yx_false, y1_false, y1_true, y2_none, y2_some, y3, vun, simprocAttr, ff_7]) | (refine WKD.condT ?_ ?_; focus (simp only [ev_tmp, ev_const, fset_apply, Nat.reduceEqDiff, ↓reduceIte, decide_true, decide_false, ff_7]; done)) | (refine WKD.condF ?_ ?_; focus (simp only [ev_tmp, ev_const, fset_apply, Nat.reduceEqDiff, ↓reduceIte, decide_true, decide_false, ff_7]; done)))
  refine AtCallY.by sums_gives ?_
  rintro v n1 H1 k1 hg1
  have hw1 := k1.wf hw
  obtain ⟨pt, pv, pr, rfl, _, _, hr1⟩ := hg1
  simp (config := {maxSteps:=999999}) only [SS, qx8, forall_const, yx_nil, yx_true, yx_false, y1_false, y1_true, y2_none, y2_some, y3, vun, simprocAttr, r5, r3, hset_at, List.length_cons, List.length_nil, List.set_cons_zero, List.set_cons_succ, List.cons_append, List.nil_append, List.append_nil, ff_7]
  have k2 := Kp.new n1 H1 (.cells [.int .i64 1, .int .i64 0, .int .i64 1, .int .i64 0, .int .i64 1] 3 true)
  have hq2 : RS (Value.int .i64) (hset H1 n1 (.cells [.int .i64 1, .int .i64 0, .int .i64 1, .int .i64 0, .int .i64 1] 3 true)) (some ⟨n1, 0, none⟩) [1, 0, 1, 0, 1] := rs_new (hset_at _ _ _)
  generalize hset H1 n1 (.cells [.int .i64 1, .int .i64 0, .int .i64 1, .int .i64 0, .int .i64 1] 3 true) = H2 at *
  have hw2 := k2.wf hw1
  have hnew := new_gives (w := [1, 0, 1, 0, 1]) (pt := pt) (pv := pv) (g := sumsG) hw2 (hr1.mono hw1 k2) hq2 sums_sgm (by unfold maxL; simp)
  refine AtCallY.byD hnew ?_
  rintro v n3 H3 k3 hv
  have hw3 := k3.wf hw2
  rcases hv with ⟨hl, _⟩ | ⟨hl, fo, m, pw, ks, rd, rfl, md⟩
  · simp at hl
  simp (config := {maxSteps:=999999}) only [SS, qx8, forall_const, yx_nil, yx_true, yx_false, y1_false, y1_true, y2_none, y2_some, y3, vun, simprocAttr, ff_7]
  repeat (first | apply WKD.seq | apply WKD.block | apply WKD.skipSeq | apply WKD.skipBlock | apply WKD.retSeq | apply WKD.retBlock | apply WKD.exitSeq | apply WKD.exitHere | refine WKD.exitOn rfl ?_ | ((first | (refine WKD.rgn ?_ ?_; kernel_rfl) | refine AtCallY.now ?_); simp (config := {maxSteps:=999999}) only [SS, qx8, forall_const, yx_nil, yx_true, yx_false, y1_false, y1_true, y2_none, y2_some, y3, vun, simprocAttr, ff_7]) | (refine WKD.condT ?_ ?_; focus (simp only [ev_tmp, ev_const, fset_apply, Nat.reduceEqDiff, ↓reduceIte, decide_true, decide_false, ff_7]; done)) | (refine WKD.condF ?_ ?_; focus (simp only [ev_tmp, ev_const, fset_apply, Nat.reduceEqDiff, ↓reduceIte, decide_true, decide_false, ff_7]; done)))
  simp (config := {maxSteps:=999999}) only [SS, qx8, forall_const, yx_nil, yx_true, yx_false, y1_false, y1_true, y2_none, y2_some, y3, vun, simprocAttr, ff_7]
  repeat (first | apply WKD.seq | apply WKD.block | apply WKD.skipSeq | apply WKD.skipBlock | apply WKD.retSeq | apply WKD.retBlock | apply WKD.exitSeq | apply WKD.exitHere | refine WKD.exitOn rfl ?_ | ((first | (refine WKD.rgn ?_ ?_; kernel_rfl) | refine AtCallY.now ?_); simp (config := {maxSteps:=999999}) only [SS, qx8, forall_const, yx_nil, yx_true, yx_false, y1_false, y1_true, y2_none, y2_some, y3, vun, simprocAttr, ff_7]) | (refine WKD.condT ?_ ?_; focus (simp only [ev_tmp, ev_const, fset_apply, Nat.reduceEqDiff, ↓reduceIte, decide_true, decide_false, ff_7]; done)) | (refine WKD.condF ?_ ?_; focus (simp only [ev_tmp, ev_const, fset_apply, Nat.reduceEqDiff, ↓reduceIte, decide_true, decide_false, ff_7]; done)))
  refine AtCallY.by (one_gives hw3 md hl sums_sgm (Kp.refl _ _)) ?_
  rintro v n4 H4 k4 hv
  have hw4 := k4.wf hw3
  obtain ⟨d1, d2⟩ := ss.two
  rcases hv with ⟨h0, _⟩ | ⟨h0, u, rfl, hu⟩
  · exact absurd d1 (tn_none md.ok sums_sgm.ing h0 _)
  have hpl := tn_pl md.ok sums_sgm.ing h0
  generalize pl sumsG [1, 0, 1, 0, 1] rd (root [1, 0, 1, 0, 1]) = od at *
  simp (config := {maxSteps:=999999}) only [SS, qx8, forall_const, yx_nil, yx_true, yx_false, y1_false, y1_true, y2_none, y2_some, y3, vun, simprocAttr, ff_7]
  repeat (first | apply WKD.seq | apply WKD.block | apply WKD.skipSeq | apply WKD.skipBlock | apply WKD.retSeq | apply WKD.retBlock | apply WKD.exitSeq | apply WKD.exitHere | refine WKD.exitOn rfl ?_ | ((first | (refine WKD.rgn ?_ ?_; kernel_rfl) | refine AtCallY.now ?_); simp (config := {maxSteps:=999999}) only [SS, qx8, forall_const, yx_nil, yx_true, yx_false, y1_false, y1_true, y2_none, y2_some, y3, vun, simprocAttr, ff_7]) | (refine WKD.condT ?_ ?_; focus (simp only [ev_tmp, ev_const, fset_apply, Nat.reduceEqDiff, ↓reduceIte, decide_true, decide_false, ff_7]; done)) | (refine WKD.condF ?_ ?_; focus (simp only [ev_tmp, ev_const, fset_apply, Nat.reduceEqDiff, ↓reduceIte, decide_true, decide_false, ff_7]; done)))
  refine AtCallY.by (two_gives hw3 md hl sums_sgm k4) ?_
  rintro v n5 H5 k5 hv
  have hw5 := k5.wf hw4
  rcases hv with ⟨a, b, oa, ob, rfl, hne, ha, hb, hfa, hfb⟩ | ⟨_, huq⟩
  case inr => have := huq _ _ d1 d2; cases this
  have la : oa.length = 5 := by have := (ss.size ha).1; simpa [negs] using this
  have lb : ob.length = 5 := by have := (ss.size hb).1; simpa [negs] using this
  have ld : od.length = 5 := by have := (ss.size hpl).1; simpa [negs] using this
  simp (config := {maxSteps:=999999}) only [SS, qx8, forall_const, yx_nil, yx_true, yx_false, y1_false, y1_true, y2_none, y2_some, y3, vun, simprocAttr, ff_7]
  repeat (first | apply WKD.seq | apply WKD.block | apply WKD.skipSeq | apply WKD.skipBlock | apply WKD.retSeq | apply WKD.retBlock | apply WKD.exitSeq | apply WKD.exitHere | refine WKD.exitOn rfl ?_ | ((first | (refine WKD.rgn ?_ ?_; kernel_rfl) | refine AtCallY.now ?_); simp (config := {maxSteps:=999999}) only [SS, qx8, forall_const, yx_nil, yx_true, yx_false, y1_false, y1_true, y2_none, y2_some, y3, vun, simprocAttr, ff_7]) | (refine WKD.condT ?_ ?_; focus (simp only [ev_tmp, ev_const, fset_apply, Nat.reduceEqDiff, ↓reduceIte, decide_true, decide_false, ff_7]; done)) | (refine WKD.condF ?_ ?_; focus (simp only [ev_tmp, ev_const, fset_apply, Nat.reduceEqDiff, ↓reduceIte, decide_true, decide_false, ff_7]; done)))
  refine AtCallY.by sums_gives ?_
  rintro v n6 H6 k6 hg6
  have hw6 := k6.wf hw5
  simp (config := {maxSteps:=999999}) only [SS, qx8, forall_const, yx_nil, yx_true, yx_false, y1_false, y1_true, y2_none, y2_some, y3, vun, simprocAttr, r5, r3, hset_at, List.length_cons, List.length_nil, List.set_cons_zero, List.set_cons_succ, List.cons_append, List.nil_append, List.append_nil, ff_7]
  have k7 := Kp.new n6 H6 (.cells [.int .i64 0] 3 true)
  have hq7 : RS (Value.int .i64) (hset H6 n6 (.cells [.int .i64 0] 3 true)) (some ⟨n6, 0, none⟩) [0] := rs_new (hset_at _ _ _)
  generalize hset H6 n6 (.cells [.int .i64 0] 3 true) = H7 at *
  have hw7 := k7.wf hw6
  obtain ⟨zu, rfl, hru⟩ := (hu.mono hw4 (k5.trans (k6.trans k7))).rs
  obtain ⟨za, rfl, hra⟩ := (hfa.mono hw5 (k6.trans k7)).rs
  obtain ⟨zb, rfl, hrb⟩ := (hfb.mono hw5 (k6.trans k7)).rs
  have hy : yieldS sumsG [0] od = ([1, 0, 1, 0, 1], 0) := dv_yield sums_sgm.ing hpl (by omega)
  have hyield := yield_gives (form := [0]) (rules := od) hw7 (hg6.mono hw6 k7) sums_wg sums_ok hq7.ra hru.ra (by rw [ld]; decide) (by simp)
  rw [hy] at hyield
  refine AtCallY.by hyield ?_
  rintro v n8 H8 k8 ⟨p', rfl, _⟩
  have hw8 := k8.wf hw7
  have la' : ((oa.length : Int) = 5) = True := by simp only [eq_iff_iff, iff_true]; omega
  have lb' : ((ob.length : Int) = 5) = True := by simp only [eq_iff_iff, iff_true]; omega
  have lw' : (((5 : Nat) : Int) = 5) = True := by simp
  have c00 : (((0 : Nat) : Int) = 0) = True := by simp
  simp (config := {maxSteps:=999999}) only [SS, qx8, forall_const, yx_nil, yx_true, yx_false, y1_false, y1_true, y2_none, y2_some, y3, vun, simprocAttr, ff_7]
  repeat (first | apply WKD.seq | apply WKD.block | apply WKD.skipSeq | apply WKD.skipBlock | apply WKD.retSeq | apply WKD.retBlock | apply WKD.exitSeq | apply WKD.exitHere | refine WKD.exitOn rfl ?_)
  (refine WKD.rgn ?_ ?_; kernel_rfl; simp (config := {maxSteps:=999999}) only [SS, qx8, forall_const, yx_nil, yx_true, yx_false, y1_false, y1_true, y2_none, y2_some, y3, vun, simprocAttr, la', lb', lw', c00, decide_true, ff_7])
  refine AtCallY.by (same_gives (hra.mono hw7 k8).ra (hrb.mono hw7 k8).ra (by unfold maxL; omega) (by unfold maxL; omega)) ?_
  rintro v n9 H9 _ ⟨rfl, rfl, rfl⟩
  have hsame : same oa ob = false := by rw [Bool.eq_false_iff]; exact fun e => hne (same_iff3.1 e)
  simp (config := {maxSteps:=999999}) only [SS, qx8, forall_const, yx_nil, yx_true, yx_false, y1_false, y1_true, y2_none, y2_some, y3, vun, simprocAttr, hsame, Bool.not_false, ff_7]
  refine AtCallY.by sums_gives ?_
  rintro v n10 H10 k10 hg10
  have hw10 := k10.wf hw8
  obtain ⟨pt, pv, pr, rfl, _, _, hr10⟩ := hg10
  simp (config := {maxSteps:=999999}) only [SS, qx8, forall_const, yx_nil, yx_true, yx_false, y1_false, y1_true, y2_none, y2_some, y3, vun, simprocAttr, r5, r3, hset_at, List.length_cons, List.length_nil, List.set_cons_zero, List.set_cons_succ, List.cons_append, List.nil_append, List.append_nil, ff_7]
  have k11 := Kp.new n10 H10 (.cells [.int .i64 1, .int .i64 0, .int .i64 1] 3 true)
  have hq11 : RS (Value.int .i64) (hset H10 n10 (.cells [.int .i64 1, .int .i64 0, .int .i64 1] 3 true)) (some ⟨n10, 0, none⟩) [1, 0, 1] := rs_new (hset_at _ _ _)
  generalize hset H10 n10 (.cells [.int .i64 1, .int .i64 0, .int .i64 1] 3 true) = H11 at *
  have hw11 := k11.wf hw10
  have ht3 := trees_gives (w := [1, 0, 1]) (pt := pt) (pv := pv) (g := sumsG) hw11 (hr10.mono hw10 k11) hq11 sums_sgm (by unfold maxL; simp)
  refine AtCallY.byD ht3 ?_
  rintro v n12 H12 k12 ⟨t, rfl, _, ht⟩
  have hw12 := k12.wf hw11
  obtain rfl := ss.n3 sums_sgm.ing (ht (by simp))
  have c11 : (((1 : Nat) : Int) = 1) = True := by simp
  simp (config := {maxSteps:=999999}) only [SS, qx8, forall_const, yx_nil, yx_true, yx_false, y1_false, y1_true, y2_none, y2_some, y3, vun, simprocAttr, c11, decide_true, ff_7]
  refine AtCallY.by sums_gives ?_
  rintro v n13 H13 k13 hg13
  have hw13 := k13.wf hw12
  obtain ⟨pt2, pv2, pr2, rfl, _, _, hr13⟩ := hg13
  simp (config := {maxSteps:=999999}) only [SS, qx8, forall_const, yx_nil, yx_true, yx_false, y1_false, y1_true, y2_none, y2_some, y3, vun, simprocAttr, r5, r3, hset_at, List.length_cons, List.length_nil, List.set_cons_zero, List.set_cons_succ, List.cons_append, List.nil_append, List.append_nil, ff_7]
  have k14 := Kp.new n13 H13 (.cells [.int .i64 0] 3 true)
  have hq14 : RS (Value.int .i64) (hset H13 n13 (.cells [.int .i64 0] 3 true)) (some ⟨n13, 0, none⟩) [0] := rs_new (hset_at _ _ _)
  generalize hset H13 n13 (.cells [.int .i64 0] 3 true) = H14 at *
  have hw14 := k14.wf hw13
  have ht0 := trees_gives (w := [0]) (pt := pt2) (pv := pv2) (g := sumsG) hw14 (hr13.mono hw13 k14) hq14 sums_sgm (by unfold maxL; simp)
  refine AtCallY.byD ht0 ?_
  rintro v n15 H15 k15 ⟨t, rfl, _, ht⟩
  have hw15 := k15.wf hw14
  obtain rfl := ss.n0 sums_sgm.ing (ht (by simp))
  simp (config := {maxSteps:=999999}) only [SS, qx8, forall_const, yx_nil, yx_true, yx_false, y1_false, y1_true, y2_none, y2_some, y3, vun, simprocAttr, c00, decide_true, ff_7]
  refine AtCallY.by sums_gives ?_
  rintro v n16 H16 k16 hg16
  have hw16 := k16.wf hw15
  obtain ⟨pt3, pv3, pr3, rfl, _, _, hr16⟩ := hg16
  simp (config := {maxSteps:=999999}) only [SS, qx8, forall_const, yx_nil, yx_true, yx_false, y1_false, y1_true, y2_none, y2_some, y3, vun, simprocAttr, r5, r3, hset_at, List.length_cons, List.length_nil, List.set_cons_zero, List.set_cons_succ, List.cons_append, List.nil_append, List.append_nil, ff_7]
  have k17 := Kp.new n16 H16 (.cells [.int .i64 1, .int .i64 0, .int .i64 1, .int .i64 0, .int .i64 1] 3 true)
  have hq17 : RS (Value.int .i64) (hset H16 n16 (.cells [.int .i64 1, .int .i64 0, .int .i64 1, .int .i64 0, .int .i64 1] 3 true)) (some ⟨n16, 0, none⟩) [1, 0, 1, 0, 1] := rs_new (hset_at _ _ _)
  generalize hset H16 n16 (.cells [.int .i64 1, .int .i64 0, .int .i64 1, .int .i64 0, .int .i64 1] 3 true) = H17 at *
  have hw17 := k17.wf hw16
  have ht5 := trees_gives (w := [1, 0, 1, 0, 1]) (pt := pt3) (pv := pv3) (g := sumsG) hw17 (hr16.mono hw16 k17) hq17 sums_sgm (by unfold maxL; simp)
  refine AtCallY.byD ht5 ?_
  rintro v n18 H18 k18 ⟨t, rfl, _, ht⟩
  obtain rfl := ss.n5 (ht (by simp))
  have c22 : (((2 : Nat) : Int) = 2) = True := by simp
  simp (config := {maxSteps:=999999}) only [SS, qx8, forall_const, yx_nil, yx_true, yx_false, y1_false, y1_true, y2_none, y2_some, y3, vun, simprocAttr, c22, decide_true, ff_7]
  repeat (first | apply WKD.seq | apply WKD.block | apply WKD.skipSeq | apply WKD.skipBlock | apply WKD.retSeq | apply WKD.retBlock | apply WKD.exitSeq | apply WKD.exitHere | refine WKD.exitOn rfl ?_ | ((first | (refine WKD.rgn ?_ ?_; kernel_rfl) | refine AtCallY.now ?_); simp (config := {maxSteps:=999999}) only [SS, qx8, forall_const, yx_nil, yx_true, yx_false, y1_false, y1_true, y2_none, y2_some, y3, vun, simprocAttr, ff_7]) | (refine WKD.condT ?_ ?_; focus (simp only [ev_tmp, ev_const, fset_apply, Nat.reduceEqDiff, ↓reduceIte, decide_true, decide_false, ff_7]; done)) | (refine WKD.condF ?_ ?_; focus (simp only [ev_tmp, ev_const, fset_apply, Nat.reduceEqDiff, ↓reduceIte, decide_true, decide_false, ff_7]; done)))
  (first | refine WKD.retNil ⟨Or.inr rfl, _, rfl, ?_, ?_⟩ | refine WKD.skipNil ⟨Or.inl rfl, _, rfl, ?_, ?_⟩)
  · have e1 := k1.le
    have e2 := k2.le
    have e3 := k3.le
    have e4 := k4.le
    have e5 := k5.le
    have e6 := k6.le
    have e7 := k7.le
    have e8 := k8.le
    have e10 := k10.le
    have e11 := k11.le
    have e12 := k12.le
    have e13 := k13.le
    have e14 := k14.le
    have e15 := k15.le
    have e16 := k16.le
    have e17 := k17.le
    exact fun z hz => (k18.keep z (by omega)).trans ((k17.keep z (by omega)).trans ((k16.keep z (by omega)).trans ((k15.keep z (by omega)).trans ((k14.keep z (by omega)).trans ((k13.keep z (by omega)).trans ((k12.keep z (by omega)).trans ((k11.keep z (by omega)).trans ((k10.keep z (by omega)).trans ((k8.keep z (by omega)).trans ((k7.keep z (by omega)).trans ((k6.keep z (by omega)).trans ((k5.keep z (by omega)).trans ((k4.keep z (by omega)).trans ((k3.keep z (by omega)).trans ((k2.keep z (by omega)).trans (k1.keep z hz))))))))))))))))
  · simp only [packed, fset_apply, Nat.reduceEqDiff, ↓reduceIte, List.getD_cons_zero, List.getD_cons_succ, ff_7]
end Go.Proofs.Ytemkglelfeidhaa

namespace Go.Proofs.Ytemkglelfeidhaa
open Go.AM Go.AM.Fo Go.RowKit
set_option maxRecDepth 100000
end Go.Proofs.Ytemkglelfeidhaa
