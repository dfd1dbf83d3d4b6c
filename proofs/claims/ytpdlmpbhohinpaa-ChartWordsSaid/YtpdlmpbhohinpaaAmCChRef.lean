/- A part of a proof. Its conditions: none. -/
import Derived.Test.YtpdlmpbhohinpaaAmCLfFix
import Derived.Test.YtpdlmpbhohinpaaAmCLfPrice
import Derived.Test.YtpdlmpbhohinpaaAmC
import Derived.Test.YtpdlmpbhohinpaaAmCLfCostW
import Derived.Test.YtpdlmpbhohinpaaAmCChGoes
set_option linter.all false
namespace Go.Proofs.Ytpdlmpbhohinpaa
open Go.AM
set_option maxRecDepth 100000
def firstS (l : List Int) : Int := if l.dropWhile neg = [] then -1 else (l.takeWhile neg).length
theorem first7_gives {p : Option Addr} {l : List Int} {n : Nat} {H : Heap} (hp : RA (Value.int .i64) H p l) (hl : l.length < 9223372036854775807) :
    Gives Try.prog 32 [.slice p l.length l.length] n H fun v n' H' => v = .int .i64 (firstS l) ∧ n' = n ∧ H' = H := by
  refine Gives.of orders ok32 (Nat.le_of_ble_eq_true rfl) ?_
  repeat (first | refine qqn rfl ?_ | ((first | (refine WK.rgn ?_ ?_; kernel_rfl) | refine AtCall.now ?_); simp (config := {maxSteps:=999999}) only [SS, qx10, forall_const, simprocAttr, ff_32]) | refine qqj rfl ?_ | refine qqk rfl ?_)
  refine WK.loop (fun k s => ∃ j, s.n = n ∧ s.H = H ∧ s.f 0 = .slice p l.length l.length ∧ s.f 3 = .int .i64 (j : Nat) ∧ j ≤ l.length ∧ k = l.length - j ∧ ∀ s ∈ l.take j, s < 0) l.length ?_ ?_
  · exact ⟨0, rfl, rfl, rfl, rfl, Nat.zero_le _, rfl, by simp⟩
  rintro kk ⟨f, n', H'⟩ ⟨j, rfl, rfl, f0, f3, hj, rfl, hn⟩ ih
  simp only at f0 f3 ih hp
  by_cases hjl : j < l.length
  · obtain ⟨z, k, cs, ty, own, rfl, hz, e⟩ := hp.at hjl
    by_cases hx : 0 ≤ l[j]
    · repeat (first | refine qqn rfl ?_ | ((first | (refine WK.rgn ?_ ?_; kernel_rfl) | refine AtCall.now ?_); simp (config := {maxSteps:=999999}) only [SS, qx10, forall_const, simprocAttr, f0, f3, hjl, hz, e, hx, ff_32]) | refine qqj rfl ?_ | refine qqk rfl ?_)
      (first | refine WK.retNil ⟨Or.inr rfl, _, rfl, ?_, ?_⟩ | refine WK.skipNil ⟨Or.inl rfl, _, rfl, ?_, ?_⟩)
      · exact fun _ _ => rfl
      · simp only [packed, fset_apply, Nat.reduceEqDiff, ↓reduceIte, List.getD_cons_zero, List.getD_cons_succ, ff_32]
        obtain ⟨h1, h2⟩ := tw_at hjl hn hx
        refine ⟨?_, trivial, trivial⟩
        unfold firstS
        rw [h2, h1, if_neg (List.cons_ne_nil _ _), List.length_take, Nat.min_eq_left (Nat.le_of_lt hjl)]
    · repeat (first | refine qqn rfl ?_ | ((first | (refine WK.rgn ?_ ?_; kernel_rfl) | refine AtCall.now ?_); simp (config := {maxSteps:=999999}) only [SS, qx10, forall_const, simprocAttr, f0, f3, hjl, hz, e, hx, ff_32]) | refine qqj rfl ?_ | refine qqk rfl ?_)
      refine ih (l.length - (j + 1)) (by omega) _ ⟨j + 1, rfl, rfl, f0, ?_, hjl, rfl, ?_⟩
      · simp only [packed, fset_apply, Nat.reduceEqDiff, ↓reduceIte, List.getD_cons_zero, List.getD_cons_succ, f3, ff_32]
        rw [wrap_in (by omega) (by omega)]; rfl
      · intro s hs
        rw [List.take_succ_eq_append_getElem hjl, List.mem_append] at hs
        rcases hs with hs | hs
        · exact hn s hs
        · simp at hs; subst hs; omega
  · repeat (first | refine qqn rfl ?_ | ((first | (refine WK.rgn ?_ ?_; kernel_rfl) | refine AtCall.now ?_); simp (config := {maxSteps:=999999}) only [SS, qx10, forall_const, simprocAttr, f0, f3, hjl, ff_32]) | refine qqj rfl ?_ | refine qqk rfl ?_)
    (first | refine WK.retNil ⟨Or.inr rfl, _, rfl, ?_, ?_⟩ | refine WK.skipNil ⟨Or.inl rfl, _, rfl, ?_, ?_⟩)
    · exact fun _ _ => rfl
    · simp only [packed, fset_apply, Nat.reduceEqDiff, ↓reduceIte, List.getD_cons_zero, List.getD_cons_succ, ff_32]
      rw [List.take_of_length_le (by omega)] at hn
      obtain ⟨h1, h2⟩ := tw_all hn
      refine ⟨?_, trivial, trivial⟩
      unfold firstS
      rw [h2, if_pos rfl]
def outAt (form right : List Int) (a k : Nat) : List Int := if k ≤ a then form.take k else form.take a ++ right ++ (form.drop (a + 1)).take (k - a - 1)
theorem outAt_len {form right : List Int} {a k : Nat} (hk : k ≤ form.length) : (outAt form right a k).length ≤ k + right.length := by
  unfold outAt
  split
  · simp; omega
  · simp only [List.length_append, List.length_take, List.length_drop]
    omega
theorem outAt_copy {form right : List Int} {a k : Nat} (hk : k < form.length) (hne : k ≠ a) (ha : a < form.length) : outAt form right a (k + 1) = outAt form right a k ++ [form[k]] := by
  unfold outAt
  by_cases h : k < a
  · rw [if_pos (by omega), if_pos (by omega), List.take_succ_eq_append_getElem hk]
  · rw [if_neg (by omega), if_neg (by omega)]
    have e : k + 1 - a - 1 = (k - a - 1) + 1 := by omega
    have hd : k - a - 1 < (form.drop (a + 1)).length := by rw [List.length_drop]; omega
    rw [e, List.take_succ_eq_append_getElem hd, ← List.append_assoc]
    congr 2
    rw [List.getElem_drop]
    congr 1
    omega
theorem outAt_right {form right : List Int} {a : Nat} (ha : a < form.length) : outAt form right a (a + 1) = outAt form right a a ++ right := by
  unfold outAt
  rw [if_neg (by omega), if_pos (Nat.le_refl _)]
  simp
theorem outAt_all {form right : List Int} {a : Nat} (ha : a < form.length) : outAt form right a form.length = form.take a ++ right ++ form.drop (a + 1) := by
  unfold outAt
  rw [if_neg (by omega), List.take_of_length_le (l := form.drop (a + 1)) (by rw [List.length_drop]; omega)]
set_option maxHeartbeats 8000000 in
theorem step7_gives {v : Value} {g : Gram} {p : Option Addr} {form : List Int} {r : Int} {n : Nat} {H : Heap} (hw : WF n H) (hg : RG H v g) (wg : WG g) (ok : RightOK g) (hp : RA (Value.int .i64) H p form) (hl : form.length ≤ 2147483648) :
    Gives Try.prog 35 [v, .slice p form.length form.length, .int .i64 r] n H fun v _ H' => ∃ p', v = .tuple #[.slice p' (stepS g form r).1.length (stepS g form r).1.length, .int .i64 ((stepS g form r).2 : Nat)] ∧ RS (Value.int .i64) H' p' (stepS g form r).1 := by
  have hg0 := hg
  obtain ⟨pt, pv, pr, rfl, ht, hv, hr⟩ := hg
  refine Gives.of orders ok35 (Nat.le_of_ble_eq_true rfl) ?_
  have hk := Kp.new n H (.cells (gcells pt pv pr g) 25 true)
  have hb := hset_at H n (.cells (gcells pt pv pr g) 25 true)
  have hrl := ok.rules
  repeat (first | refine qqn rfl ?_)
  (refine WK.rgn ?_ ?_; kernel_rfl; simp (config := {maxSteps:=999999}) only [SS, qx27, forall_const, simprocAttr, box_cells, box_one, ff_35])
  have hw1 := hk.wf hw
  replace hp := hp.mono hw hk
  replace hr := hr.mono hw hk
  generalize hset H n (.cells (gcells pt pv pr g) 25 true) = H1 at *
  repeat (first | refine qqn rfl ?_)
  (refine WK.rgn ?_ ?_; kernel_rfl; simp (config := {maxSteps:=999999}) only [SS, qx27, forall_const, simprocAttr, ff_35])
  refine AtCall.by (first7_gives hp (by omega)) ?_
  rintro v n2 H2 hk2 ⟨rfl, rfl, rfl⟩
  simp (config := {maxSteps:=999999}) only [SS, qx27, forall_const, simprocAttr, ff_35]
  repeat (first | refine qqn rfl ?_)
  have err : ∀ e : Nat, stepS g form r = ([], e) → ∀ f : Fr, f 6 = .slice none 0 0 → f 7 = .int .i64 e → Fin Try.prog Try.f35.results.toList n H (fun v _ H' => ∃ p', v = .tuple #[.slice p' (stepS g form r).1.length (stepS g form r).1.length, .int .i64 ((stepS g form r).2 : Nat)] ∧ RS (Value.int .i64) H' p' (stepS g form r).1) .ret ⟨f, n + 1, H2⟩ :=
    fun e he f h6 h7 => ⟨Or.inr rfl, [f 6, f 7], rfl, hk.keep, none, by rw [he, h6, h7]; rfl, by rw [he]; exact .inl ⟨rfl, rfl⟩⟩
  by_cases hr0 : r < 0
  · repeat (first | refine qqn rfl ?_ | ((first | (refine WK.rgn ?_ ?_; kernel_rfl) | refine AtCall.now ?_); simp (config := {maxSteps:=999999}) only [SS, qx27, forall_const, simprocAttr, hr0, hb, gc_2, ff_35]) | refine qqj rfl ?_ | refine qqk rfl ?_)
    exact WK.retNil (err 12 (by unfold stepS; rw [if_pos (.inl hr0)]) _ rfl rfl)
  by_cases hr1 : (g.rules.length : Int) ≤ r
  · repeat (first | refine qqn rfl ?_ | ((first | (refine WK.rgn ?_ ?_; kernel_rfl) | refine AtCall.now ?_); simp (config := {maxSteps:=999999}) only [SS, qx27, forall_const, simprocAttr, hr0, hr1, hb, gc_2, ff_35]) | refine qqj rfl ?_ | refine qqk rfl ?_)
    exact WK.retNil (err 12 (by unfold stepS; rw [if_pos (.inr hr1)]) _ rfl rfl)
  obtain ⟨i, rfl⟩ : ∃ i : Nat, r = i := ⟨r.toNat, by omega⟩
  have hi : i < g.rules.length := by omega
  have hi' : ¬ g.rules.length ≤ i := by omega
  have hneg : ((i : Int) < 0) = False := by simp
  by_cases hd : form.dropWhile neg = []
  · have hf : firstS form = -1 := by unfold firstS; rw [if_pos hd]
    have hf0 : ((-1 : Int) < 0) = True := by simp
    repeat (first | refine qqn rfl ?_ | ((first | (refine WK.rgn ?_ ?_; kernel_rfl) | refine AtCall.now ?_); simp (config := {maxSteps:=999999}) only [SS, qx27, forall_const, simprocAttr, hneg, hi', hb, gc_2, hf, hf0, ff_35]) | refine qqj rfl ?_ | refine qqk rfl ?_)
    exact WK.retNil (err 13 (by unfold stepS; rw [if_neg (by omega), hd]) _ rfl rfl)
  · obtain ⟨a, ha⟩ : ∃ a, (form.takeWhile neg).length = a := ⟨_, rfl⟩
    have hf : firstS form = (a : Nat) := by unfold firstS; rw [if_neg hd, ha]
    have haf : a < form.length := by
      have h1 : form.takeWhile neg ++ form.dropWhile neg = form := List.takeWhile_append_dropWhile
      have h2 := congrArg List.length h1
      rw [List.length_append, ha] at h2
      have h3 : (form.dropWhile neg).length ≠ 0 := by simpa using hd
      omega
    have hfa : ((a : Int) < 0) = False := by simp
    have key : ∀ (t d : List Int), t ++ d = form → t.length = a → t = form.take a ∧ d = form.drop a := by
      rintro t d rfl rfl
      simp
    obtain ⟨htw, hdw⟩ := key _ _ List.takeWhile_append_dropWhile ha
    rw [List.drop_eq_getElem_cons haf] at hdw
    have hst : stepS g form (i : Nat) = if g.rules[i].left = form[a] then (form.take a ++ g.rules[i].right ++ form.drop (a + 1), 0) else ([], 14) := by
      unfold stepS
      rw [if_neg (by omega), hdw, htw]
      simp only [Int.toNat_natCast, List.getElem?_eq_getElem hi]
    obtain ⟨z, kz, cs, ty, own, q, e0, hz, d0, d1, d2, hq⟩ := hr.atS hi
    subst e0
    obtain ⟨x, kx, ds, tx, ox, rfl, hx, ex⟩ := hp.at haf
    by_cases hle : g.rules[i].left = form[a]
    · have hrr := (ok.rule i hi).len
      rw [if_pos hle] at hst
      repeat (first | refine qqn rfl ?_ | ((first | (refine WK.rgn ?_ ?_; kernel_rfl) | refine AtCall.now ?_); simp (config := {maxSteps:=999999}) only [SS, qx27, forall_const, simprocAttr, hneg, hi, hi', hb, gc_2, hf, hfa, hz, d0, haf, hx, ex, hle, ebs_26_0, ff_35]) | refine qqj rfl ?_ | refine qqk rfl ?_)
      refine WK.loop (fun k s => ∃ (j Y : Nat), Kp (n + 1) H2 s.n s.H ∧ s.f 1 = .slice (some ⟨x, kx, none⟩) form.length form.length ∧ s.f 2 = .int .i64 (i : Nat) ∧ s.f 3 = .pointer (some ⟨n, 0, none⟩) ∧ s.f 8 = .int .i64 (a : Nat) ∧ s.f 9 = .slice (some ⟨Y, 0, none⟩) (outAt form g.rules[i].right a j).length (outAt form g.rules[i].right a j).length ∧ n + 1 ≤ Y ∧ s.H Y = .cells ((outAt form g.rules[i].right a j).map (Value.int .i64)) 3 true ∧
          s.f 10 = .int .i64 (j : Nat) ∧ j ≤ form.length ∧ k = form.length - j) form.length ?_ ?_
      · refine ⟨0, n + 1, Kp.new _ _ _, rfl, rfl, rfl, rfl, ?_, Nat.le_refl _, ?_, rfl, Nat.zero_le _, rfl⟩
        · simp only [packed, fset_apply, Nat.reduceEqDiff, ↓reduceIte, List.getD_cons_zero, List.getD_cons_succ, ff_35]
          rfl
        · exact hset_at _ _ _
      rintro kk ⟨f, n4, H4⟩ ⟨j, Y, kp, f1, f2, f3, f8, f9, hY, hy, f10, hj, rfl⟩ ih
      simp only at f1 f2 f3 f8 f9 f10 ih kp hy
      have hw4 := kp.wf hw1
      have hYl := live_lt hw4 (live_of hy)
      by_cases hjl : j < form.length
      · have hjw : IntKind.i64.wrap ((j : Int) + 1) = ((j + 1 : Nat) : Int) := by rw [wrap_in (by omega) (by omega)]; rfl
        have hol := outAt_len (right := g.rules[i].right) (a := a) (Nat.le_of_lt hjl)
        have a3 : ((outAt form g.rules[i].right a j).map (Value.int .i64)).take (outAt form g.rules[i].right a j).length = (outAt form g.rules[i].right a j).map (Value.int .i64) := List.take_of_length_le (by simp)
        by_cases hja : j = a
        · subst hja
          have b4 := (kp.keep n (by omega)).trans hb
          have zl := live_lt hw1 (live_of hz)
          have z4 := (kp.keep z zl).trans hz
          have b3 : (outAt form g.rules[i].right j j).length + g.rules[i].right.length ≤ bigN := by unfold bigN; omega
          rcases hq with ⟨rfl, hq⟩ | ⟨w, kw, es, tw, ow, rfl, hw', hwl, hwe⟩
          · have b3' : (outAt form g.rules[i].right j j).length ≤ bigN := by omega
            rw [hq] at d1
            have hr0 : outAt form g.rules[i].right j (j + 1) = outAt form g.rules[i].right j j := by rw [outAt_right haf, hq, List.append_nil]
            repeat (first | refine qqn rfl ?_ | ((first | (refine WK.rgn ?_ ?_; kernel_rfl) | refine AtCall.now ?_); simp (config := {maxSteps:=999999}) only [SS, qx27, forall_const, simprocAttr, f1, f2, f3, f8, f9, f10, hjl, b4, gc_2, z4, hi, d1, hy, a3, b3', List.length_map, List.drop_zero, List.contains_nil, ff_35]) | refine qqj rfl ?_ | refine qqk rfl ?_)
            refine ih (form.length - (j + 1)) (by omega) _ ⟨j + 1, n4, (kp.set _ hY hYl).trans (Kp.new n4 _ _), f1, f2, f3, f8, ?_, kp.le, ?_, ?_, hjl, rfl⟩
            · simp only [packed, fset_apply, Nat.reduceEqDiff, ↓reduceIte, List.getD_cons_zero, List.getD_cons_succ, hr0, ff_35]
            · rw [hr0]
              exact hset_at _ _ _
            · simp only [packed, fset_apply, Nat.reduceEqDiff, ↓reduceIte, List.getD_cons_zero, List.getD_cons_succ, f10, hjw, ff_35]
          · have w4 := (kp.keep w (live_lt hw1 (live_of hw'))).trans hw'
            have hcs := RS.cells hwl hwe
            have hwY : [w].contains Y = false := by have := live_lt hw1 (live_of hw'); simp; omega
            repeat (first | refine qqn rfl ?_ | ((first | (refine WK.rgn ?_ ?_; kernel_rfl) | refine AtCall.now ?_); simp (config := {maxSteps:=999999}) only [SS, qx27, forall_const, simprocAttr, f1, f2, f3, f8, f9, f10, hjl, b4, gc_2, z4, hi, d1, hy, a3, b3, w4, hcs, hwl, hwY, List.length_map, List.drop_zero, ff_35]) | refine qqj rfl ?_ | refine qqk rfl ?_)
            refine ih (form.length - (j + 1)) (by omega) _ ⟨j + 1, n4, (kp.set _ hY hYl).trans (Kp.new n4 _ _), f1, f2, f3, f8, ?_, kp.le, ?_, ?_, hjl, rfl⟩
            · simp only [packed, fset_apply, Nat.reduceEqDiff, ↓reduceIte, List.getD_cons_zero, List.getD_cons_succ, ff_35]
              rw [outAt_right haf, List.length_append]
            · rw [outAt_right haf, List.map_append]
              exact hset_at _ _ _
            · simp only [packed, fset_apply, Nat.reduceEqDiff, ↓reduceIte, List.getD_cons_zero, List.getD_cons_succ, f10, hjw, ff_35]
        · obtain ⟨x', kx', ds', tx', ox', e0', hx', ex'⟩ := hp.at hjl
          cases e0'
          rw [hx] at hx'
          cases hx'
          have x4 := (kp.keep x (live_lt hw1 (live_of hx))).trans hx
          have hja' : ((j : Int) = a) = False := by simp; omega
          have c1 : ∀ o, hset H4 n4 o Y = _ := fun o => (hset_ne _ _ _ (by omega)).trans hy
          have c2 : [n4].contains Y = false := by simp; omega
          have c3 : (outAt form g.rules[i].right a j).length + 1 ≤ bigN := by unfold bigN; omega
          repeat (first | refine qqn rfl ?_ | ((first | (refine WK.rgn ?_ ?_; kernel_rfl) | refine AtCall.now ?_); simp (config := {maxSteps:=999999}) only [SS, qx27, forall_const, simprocAttr, f1, f8, f9, f10, hjl, hja, hja', x4, ex', c1, c2, c3, a3, ebs_26_1, List.length_map, List.drop_zero, ff_35]) | refine qqj rfl ?_ | refine qqk rfl ?_)
          refine ih (form.length - (j + 1)) (by omega) _ ⟨j + 1, n4 + 1, ((kp.trans (Kp.new n4 H4 _)).set _ hY (by omega)).trans (Kp.new (n4 + 1) _ _), f1, f2, f3, f8, ?_, by have := kp.le; omega, ?_, ?_, hjl, rfl⟩
          · simp only [packed, fset_apply, Nat.reduceEqDiff, ↓reduceIte, List.getD_cons_zero, List.getD_cons_succ, ff_35]
            rw [outAt_copy hjl hja haf, List.length_append]
            rfl
          · rw [outAt_copy hjl hja haf, List.map_append]
            exact hset_at _ _ _
          · simp only [packed, fset_apply, Nat.reduceEqDiff, ↓reduceIte, List.getD_cons_zero, List.getD_cons_succ, f10, hjw, ff_35]
      · have hje : j = form.length := by omega
        subst hje
        repeat (first | refine qqn rfl ?_ | ((first | (refine WK.rgn ?_ ?_; kernel_rfl) | refine AtCall.now ?_); simp (config := {maxSteps:=999999}) only [SS, qx27, forall_const, simprocAttr, f1, f9, f10, hjl, ff_35]) | refine qqj rfl ?_ | refine qqk rfl ?_)
        (first | refine WK.retNil ⟨Or.inr rfl, _, rfl, ?_, ?_⟩ | refine WK.skipNil ⟨Or.inl rfl, _, rfl, ?_, ?_⟩)
        · exact fun y hy => (kp.keep y (by omega)).trans (hk.keep y hy)
        · simp only [packed, fset_apply, Nat.reduceEqDiff, ↓reduceIte, List.getD_cons_zero, List.getD_cons_succ, ff_35]
          rw [outAt_all haf] at hy f9 ⊢
          refine ⟨some ⟨Y, 0, none⟩, ?_, ?_⟩
          · rw [hst]; rfl
          · rw [hst]
            exact .inr ⟨Y, 0, _, _, _, rfl, hy, by rw [List.length_map, Nat.zero_add]; exact Nat.le_refl _, fun q y e => by rw [Nat.zero_add, List.getElem?_map, e]; rfl⟩
    · rw [if_neg hle] at hst
      repeat (first | refine qqn rfl ?_ | ((first | (refine WK.rgn ?_ ?_; kernel_rfl) | refine AtCall.now ?_); simp (config := {maxSteps:=999999}) only [SS, qx27, forall_const, simprocAttr, hneg, hi, hi', hb, gc_2, hf, hfa, hz, d0, haf, hx, ex, hle, ff_35]) | refine qqj rfl ?_ | refine qqk rfl ?_)
      exact WK.retNil (err 14 hst _ rfl rfl)
end Go.Proofs.Ytpdlmpbhohinpaa

namespace Go.Proofs.Ytpdlmpbhohinpaa
open Go.AM
set_option maxRecDepth 100000
set_option maxHeartbeats 8000000 in
theorem costR_gives {v : Value} {g : Gram} {n : Nat} {H : Heap} (hw : WF n H) (hg : RG H v g) (wg : WG g) (ok : RightOK g) {c : Nat → Nat} {b : Nat → Int} (hc : CostOK g c b) :
    Gives Try.prog 60 [v] n H fun v _ H' => ∃ (cl : List Nat) (x : Nat), n ≤ x ∧ v = .slice (some ⟨x, 0, none⟩) g.vars.length g.vars.length ∧ cl.length = g.vars.length ∧ H' x = .cells (cl.map natC) 3 true ∧ ∀ v, v < g.vars.length → cF cl v = c v := by
  have hg0 := hg
  obtain ⟨pt, pv, pr, rfl, ht, hv, hr⟩ := hg
  refine Gives.of orders ok60 (Nat.le_of_ble_eq_true rfl) ?_
  have hk := Kp.new n H (.cells (gcells pt pv pr g) 25 true)
  have hb := hset_at H n (.cells (gcells pt pv pr g) 25 true)
  have hi := ok.inG
  have hv64 := ok.vars
  have hv1 := ok.vars1
  have hrl := ok.rules
  have hfar : farN = 1073741824 := rfl
  have hL := hc.rel hi
  obtain ⟨ord, hrk, hall⟩ := hc.ranked
  repeat (first | refine qqn rfl ?_)
  (refine WK.rgn ?_ ?_; kernel_rfl; simp (config := {maxSteps:=999999}) only [SS, qx29, forall_const, simprocAttr, box_cells, box_one, ff_60])
  generalize hset H n (.cells (gcells pt pv pr g) 25 true) = H1 at *
  repeat (first | refine qqn rfl ?_ | ((first | (refine WK.rgn ?_ ?_; kernel_rfl) | refine AtCall.now ?_); simp (config := {maxSteps:=999999}) only [SS, qx29, forall_const, simprocAttr, ff_60]) | refine qqj rfl ?_ | refine qqk rfl ?_)
  have k1 := hk.trans (Kp.new (n + 1) H1 (.cells [] 3 true))
  have b0 := ((Kp.new (n + 1) H1 (.cells [] 3 true)).keep n (by omega)).trans hb
  have b1 := hset_at H1 (n + 1) (.cells [] 3 true)
  generalize hset H1 (n + 1) (.cells [] 3 true) = H2 at *
  refine WK.loop (fun k s => ∃ (i y : Nat), Kp n H s.n s.H ∧ s.f 1 = .pointer (some ⟨n, 0, none⟩) ∧ s.f 3 = .slice (some ⟨y, 0, none⟩) i i ∧ s.f 4 = .int .i64 (i : Nat) ∧ s.H n = .cells (gcells pt pv pr g) 25 true ∧ s.H y = .cells ((List.replicate i farN).map natC) 3 true ∧ n < y ∧ i ≤ g.vars.length ∧ k = g.vars.length - i) g.vars.length ?_ ?_
  · exact ⟨0, n + 1, k1, rfl, rfl, rfl, b0, b1, Nat.lt_succ_self _, Nat.zero_le _, rfl⟩
  clear k1 b0 b1
  rintro kk' ⟨f, n5, H5⟩ ⟨i, y, kp, f1, f3, f4, b0, hy, hyn, hiv, rfl⟩ ih
  simp only at f1 f3 f4 ih kp b0 hy
  have hw5 := kp.wf hw
  have hy5 := live_lt hw5 (live_of hy)
  by_cases hil : i < g.vars.length
  · have hiw : IntKind.i64.wrap ((i : Int) + 1) = ((i + 1 : Nat) : Int) := by rw [wrap_in (by omega) (by omega)]; rfl
    have v1 : i ≤ ((List.replicate i farN).map natC).length := by simp
    have v2 : [n5].contains y = false := by simp; omega
    have v3 : i + 1 ≤ bigN := by unfold bigN; omega
    have v5 : ∀ o, hset H5 n5 o y = _ := fun o => (hset_ne _ _ _ (by omega)).trans hy
    have v6 : ((List.replicate i farN).map natC).take i = (List.replicate i farN).map natC := List.take_of_length_le (by simp)
    repeat (first | refine qqn rfl ?_ | ((first | (refine WK.rgn ?_ ?_; kernel_rfl) | refine AtCall.now ?_); simp (config := {maxSteps:=999999}) only [SS, qx29, forall_const, simprocAttr, f1, f3, f4, b0, gc_1, hil, hiw, v1, v2, v3, v5, v6, List.drop_zero, ff_60]) | refine qqj rfl ?_ | refine qqk rfl ?_)
    have kq := ((kp.trans (Kp.new n5 H5 (.cells [.int .i64 1073741824] 3 true))).set (x := y) .dead (by omega) (by omega)).trans (Kp.new (n5 + 1) _ (.cells ((List.replicate i farN).map natC ++ [.int .i64 1073741824]) 3 true))
    refine ih (g.vars.length - (i + 1)) (by omega) _ ⟨i + 1, n5 + 1, kq, f1, rfl, ?_, ?_, ?_, by have := kp.le; omega, hil, rfl⟩
    · simp only [packed, fset_apply, Nat.reduceEqDiff, ↓reduceIte, List.getD_cons_zero, List.getD_cons_succ, f4, hiw, ff_60]
    · have := live_lt hw5 (live_of b0)
      exact (hset_ne _ _ _ (by omega)).trans ((hset_ne _ _ _ (by omega)).trans ((hset_ne _ _ _ (by omega)).trans b0))
    · refine (hset_at _ _ _).trans ?_
      rw [List.replicate_succ', List.map_append]
      rfl
  · have hie : i = g.vars.length := by omega
    subst hie
    repeat (first | refine qqn rfl ?_ | ((first | (refine WK.rgn ?_ ?_; kernel_rfl) | refine AtCall.now ?_); simp (config := {maxSteps:=999999}) only [SS, qx29, forall_const, simprocAttr, f1, f4, b0, gc_1, hil, ff_60]) | refine qqj rfl ?_ | refine qqk rfl ?_)
    clear ih
    refine WK.loop (fun k s => ∃ (i : Nat) (cl : List Nat), Kp n H s.n s.H ∧ y < s.n ∧ s.f 1 = .pointer (some ⟨n, 0, none⟩) ∧ s.f 3 = .slice (some ⟨y, 0, none⟩) g.vars.length g.vars.length ∧ s.f 5 = .int .i64 (i : Nat) ∧ s.H n = .cells (gcells pt pv pr g) 25 true ∧ s.H y = .cells (cl.map natC) 3 true ∧
        i ≤ g.vars.length ∧ cl.length = g.vars.length ∧ BF g c b ord (cF cl) i 0 ∧ k = g.vars.length - i) g.vars.length ?_ ?_
    · refine ⟨0, _, kp, hy5, f1, f3, rfl, b0, hy, Nat.zero_le _, by simp, .start hL fun v hv => ?_, rfl⟩
      unfold cF
      rw [List.getD_eq_getElem?_getD, List.getElem?_replicate]; simp [hv]
    clear f1 f3 f4 b0 hy hw5 hy5 kp
    rintro kk' ⟨f, n6, H6⟩ ⟨i, cl, kp, hy6, f1, f3, f5, b0, hy, hiv, hcl, hBF, rfl⟩ ih
    simp only at f1 f3 f5 ih kp hy6 b0 hy
    by_cases hil : i < g.vars.length
    · have hiw : IntKind.i64.wrap ((i : Int) + 1) = ((i + 1 : Nat) : Int) := by rw [wrap_in (by omega) (by omega)]; rfl
      repeat (first | refine qqn rfl ?_ | ((first | (refine WK.rgn ?_ ?_; kernel_rfl) | refine AtCall.now ?_); simp (config := {maxSteps:=999999}) only [SS, qx29, forall_const, simprocAttr, f1, f5, b0, gc_1, hil, ff_60]) | refine qqj rfl ?_ | refine qqk rfl ?_)
      refine WK.loop (fun k s => ∃ (q : Nat) (cl : List Nat), Kp n H s.n s.H ∧ y < s.n ∧ s.f 1 = .pointer (some ⟨n, 0, none⟩) ∧ s.f 3 = .slice (some ⟨y, 0, none⟩) g.vars.length g.vars.length ∧ s.f 5 = .int .i64 (i : Nat) ∧ s.f 6 = .int .i64 (q : Nat) ∧ s.H n = .cells (gcells pt pv pr g) 25 true ∧ s.H y = .cells (cl.map natC) 3 true ∧
          q ≤ g.rules.length ∧ cl.length = g.vars.length ∧ BF g c b ord (cF cl) i q ∧ k = g.rules.length - q) g.rules.length ?_ ?_
      · exact ⟨0, cl, kp, hy6, f1, f3, f5, rfl, b0, hy, Nat.zero_le _, hcl, hBF, rfl⟩
      clear f1 f3 f5 b0 hy kp hy6 hBF hcl
      rintro kk' ⟨f, n7, H7⟩ ⟨q, cl, kp, hy7, f1, f3, f5, f6, b0, hy, hq, hcl, hBF, rfl⟩ ih2
      simp only at f1 f3 f5 f6 ih2 kp hy7 b0 hy
      by_cases hql : q < g.rules.length
      · have hqw : IntKind.i64.wrap ((q : Int) + 1) = ((q + 1 : Nat) : Int) := by rw [wrap_in (by omega) (by omega)]; rfl
        obtain ⟨z, kz, cs, ty, own, p, e0, hzH, d0, d1, d2, hpH⟩ := hr.at hql
        subst e0
        have hz := (kp.keep z (live_lt hw (live_of hzH))).trans hzH
        have hm := List.getElem_mem hql
        have hlen24 := (ok.rule q hql).len
        have hl0 := (ok.rule q hql).left0
        have hl1 := (ok.rule q hql).left1
        have hp := hpH.mono hw kp
        have hcap : ∀ v, v < g.vars.length → cF cl v ≤ farN := hBF.hi
        repeat (first | refine qqn rfl ?_ | ((first | (refine WK.rgn ?_ ?_; kernel_rfl) | refine AtCall.now ?_); simp (config := {maxSteps:=999999}) only [SS, qx29, forall_const, simprocAttr, f1, f6, b0, gc_2, hql, ff_60]) | refine qqj rfl ?_ | refine qqk rfl ?_)
        refine WK.loop (fun k s => ∃ (j m : Nat), s.n = n7 ∧ s.H = H7 ∧ s.f 1 = .pointer (some ⟨n, 0, none⟩) ∧ s.f 3 = .slice (some ⟨y, 0, none⟩) g.vars.length g.vars.length ∧ s.f 5 = .int .i64 (i : Nat) ∧ s.f 6 = .int .i64 (q : Nat) ∧ s.f 7 = .int .i64 (m : Nat) ∧ s.f 8 = .int .i64 (j : Nat) ∧
            j ≤ g.rules[q].right.length ∧ m = sumF (cF cl) 0 (g.rules[q].right.take j) ∧ m ≤ farN + j ∧ k = g.rules[q].right.length - j) g.rules[q].right.length ?_ ?_
        · exact ⟨0, 0, rfl, rfl, f1, f3, f5, f6, rfl, rfl, Nat.zero_le _, rfl, Nat.zero_le _, rfl⟩
        clear f1 f3 f5 f6
        rintro kk' ⟨f, n8, H8⟩ ⟨j, m, rfl, rfl, f1, f3, f5, f6, f7, f8, hj, hms, hmb, rfl⟩ ih3
        simp only at f1 f3 f5 f6 f7 f8 ih3 kp hy7 b0 hy hz hp
        by_cases hjl : j < g.rules[q].right.length
        · have hjw : IntKind.i64.wrap ((j : Int) + 1) = ((j + 1 : Nat) : Int) := by rw [wrap_in (by omega) (by omega)]; rfl
          obtain ⟨x3, k3', ds, tz3, oz3, e3, hx3, e⟩ := hp.at hjl
          subst e3
          have hlt := hi.right _ hm _ (List.getElem_mem hjl)
          have hsn := sumF_snoc (cF cl) (g.rules[q].right.take j) 0 g.rules[q].right[j]
          rw [← List.take_succ_eq_append_getElem hjl, ← hms] at hsn
          by_cases h0 : 0 ≤ g.rules[q].right[j]
          · obtain ⟨s, hs'⟩ : ∃ s : Nat, g.rules[q].right[j] = s := ⟨g.rules[q].right[j].toNat, by omega⟩
            have hsv : s < g.vars.length := by omega
            have hsl : s < cl.length := by omega
            have hneg : ((s : Int) < 0) = False := by simp
            have hgc : (cl.map natC)[s]? = some (.int .i64 (cl[s] : Nat)) := by rw [List.getElem?_map, List.getElem?_eq_getElem hsl]; rfl
            have hcs : cF cl s = cl[s] := by simp [cF, hsl]
            have hcap' := hcap s hsv
            rw [hs', if_neg (by omega), Int.toNat_natCast] at hsn
            have hadd : IntKind.i64.wrap ((m : Int) + (cl[s] : Nat)) = ((m + cl[s] : Nat) : Int) := by rw [wrap_in (by omega) (by omega)]; omega
            repeat (first | refine qqn rfl ?_ | ((first | (refine WK.rgn ?_ ?_; kernel_rfl) | refine AtCall.now ?_); simp (config := {maxSteps:=999999}) only [SS, qx29, forall_const, simprocAttr, f1, f3, f6, f7, f8, b0, gc_2, hql, hz, d1, hjl, hx3, e, hs', hneg, hsv, hy, hgc, hadd, hjw, aop_min, tmm, Bool.false_eq_true, ff_60]) | refine qqj rfl ?_ | refine qqk rfl ?_)
            refine ih3 (g.rules[q].right.length - (j + 1)) (by omega) _ ⟨j + 1, min (m + cF cl s) farN, rfl, rfl, f1, f3, f5, f6, ?_, ?_, hjl, hsn.symm, by omega, rfl⟩
            · simp only [packed, fset_apply, Nat.reduceEqDiff, ↓reduceIte, List.getD_cons_zero, List.getD_cons_succ, ff_60]
              congr 1
              rw [hfar, hcs]
              split <;> omega
            · simp only [packed, fset_apply, Nat.reduceEqDiff, ↓reduceIte, List.getD_cons_zero, List.getD_cons_succ, f8, hjw, ff_60]
          · have hneg : g.rules[q].right[j] < 0 := by omega
            rw [if_pos hneg] at hsn
            have hadd : IntKind.i64.wrap ((m : Int) + 1) = ((m + 1 : Nat) : Int) := by rw [wrap_in (by omega) (by omega)]; omega
            repeat (first | refine qqn rfl ?_ | ((first | (refine WK.rgn ?_ ?_; kernel_rfl) | refine AtCall.now ?_); simp (config := {maxSteps:=999999}) only [SS, qx29, forall_const, simprocAttr, f1, f6, f7, f8, b0, gc_2, hql, hz, d1, hjl, hx3, e, hneg, hadd, hjw, ff_60]) | refine qqj rfl ?_ | refine qqk rfl ?_)
            refine ih3 (g.rules[q].right.length - (j + 1)) (by omega) _ ⟨j + 1, m + 1, rfl, rfl, f1, f3, f5, f6, rfl, ?_, hjl, hsn.symm, by omega, rfl⟩
            simp only [packed, fset_apply, Nat.reduceEqDiff, ↓reduceIte, List.getD_cons_zero, List.getD_cons_succ, f8, hjw, ff_60]
        · obtain ⟨l, hl⟩ : ∃ l : Nat, g.rules[q].left = l := ⟨g.rules[q].left.toNat, by omega⟩
          have hlv : l < g.vars.length := by omega
          have hll : l < cl.length := by omega
          have hgl : (cl.map natC)[l]? = some (.int .i64 (cl[l] : Nat)) := by rw [List.getElem?_map, List.getElem?_eq_getElem hll]; rfl
          have hcl' : cF cl l = cl[l] := by simp [cF, hll]
          have hll1 : l + 1 ≤ cl.length := hll
          have hmin : (if m < cl[l] then (m : Int) else (cl[l] : Int)) = ((min cl[l] m : Nat) : Int) := by
            split <;> omega
          have hset' : (cl.map natC).set l (.int .i64 ((min cl[l] m : Nat) : Int)) = (cl.set l (min cl[l] m)).map natC := by rw [List.map_set]; rfl
          rw [List.take_of_length_le (by omega)] at hms
          have hsm := sumF_min (cF cl) g.rules[q].right 0 0 rfl
          rw [← hms, Nat.zero_add] at hsm
          repeat (first | refine qqn rfl ?_ | ((first | (refine WK.rgn ?_ ?_; kernel_rfl) | refine AtCall.now ?_); simp (config := {maxSteps:=999999}) only [SS, qx29, forall_const, simprocAttr, f1, f3, f6, f7, f8, b0, gc_2, hql, hz, d0, d1, hjl, hl, hlv, hll1, hy, hgl, hqw, aop_min, tmm, Bool.false_eq_true, hmin, hset', List.length_map, ff_60]) | refine qqj rfl ?_ | refine qqk rfl ?_)
          refine ih2 (g.rules.length - (q + 1)) (by omega) _ ⟨q + 1, cl.set l (min cl[l] m), kp.set _ (by omega) hy7, hy7, f1, f3, f5, ?_, (hset_ne _ _ _ (by omega)).trans b0, hset_at _ _ _, hql, by rw [List.length_set]; exact hcl, hBF.relax hi hL hrk hql hl hsm (fun v => ?_), rfl⟩
          · simp only [packed, fset_apply, Nat.reduceEqDiff, ↓reduceIte, List.getD_cons_zero, List.getD_cons_succ, f6, hqw, ff_60]
          · rw [cF_set hll, hcl']
      · have hqe : q = g.rules.length := by omega
        subst hqe
        repeat (first | refine qqn rfl ?_ | ((first | (refine WK.rgn ?_ ?_; kernel_rfl) | refine AtCall.now ?_); simp (config := {maxSteps:=999999}) only [SS, qx29, forall_const, simprocAttr, f1, f5, f6, b0, gc_2, hql, hiw, ff_60]) | refine qqj rfl ?_ | refine qqk rfl ?_)
        refine ih (g.vars.length - (i + 1)) (by omega) _ ⟨i + 1, cl, kp, hy7, f1, f3, ?_, b0, hy, hil, hcl, hBF.next hrk, rfl⟩
        simp only [packed, fset_apply, Nat.reduceEqDiff, ↓reduceIte, List.getD_cons_zero, List.getD_cons_succ, f5, hiw, ff_60]
    · have hie : i = g.vars.length := by omega
      rw [hie] at hBF
      repeat (first | refine qqn rfl ?_ | ((first | (refine WK.rgn ?_ ?_; kernel_rfl) | refine AtCall.now ?_); simp (config := {maxSteps:=999999}) only [SS, qx29, forall_const, simprocAttr, f1, f3, f5, b0, gc_1, hil, ff_60]) | refine qqj rfl ?_ | refine qqk rfl ?_)
      (first | refine WK.retNil ⟨Or.inr rfl, _, rfl, ?_, ?_⟩ | refine WK.skipNil ⟨Or.inl rfl, _, rfl, ?_, ?_⟩)
      · exact kp.keep
      · simp only [packed, fset_apply, Nat.reduceEqDiff, ↓reduceIte, List.getD_cons_zero, List.getD_cons_succ, f3, ff_60]
        exact ⟨cl, y, by omega, rfl, hcl, hy, hBF.over hi hrk hall⟩
end Go.Proofs.Ytpdlmpbhohinpaa

namespace Go.Proofs.Ytpdlmpbhohinpaa
open Go.AM Go.RowKit
set_option maxRecDepth 100000
theorem less_tri : ∀ (a b : List Int), less a b = true ∨ a = b ∨ less b a = true := by
  intro a
  induction a with
  | nil => intro b; cases b with
    | nil => exact .inr (.inl rfl)
    | cons y b => left; simp [less]
  | cons x a ih =>
    intro b
    cases b with
    | nil => right; right; simp [less]
    | cons y b =>
      by_cases e : x = y
      · subst e
        rcases ih b with h | h | h
        · left; simp [less, h]
        · right; left; rw [h]
        · right; right; simp [less, h]
      · have e' : ¬ y = x := fun h => e h.symm
        simp only [less, if_neg e, if_neg e', decide_eq_true_eq]
        rcases Int.lt_or_gt_of_ne e with h | h
        · exact .inl h
        · exact .inr (.inr h)
theorem less_irr (a : List Int) : less a a = false := same_self a
theorem less_trans : ∀ {a b c : List Int}, less a b = true → less b c = true → less a c = true := by
  intro a
  induction a with
  | nil =>
    intro b c h1 h2
    cases c with
    | nil => cases b <;> simp [less] at h1 h2
    | cons z c => simp [less]
  | cons x a ih =>
    intro b c h1 h2
    cases b with
    | nil => simp [less] at h1
    | cons y b =>
      cases c with
      | nil => simp [less] at h2
      | cons z c =>
        simp only [less] at h1 h2 ⊢
        by_cases e1 : x = y
        · subst e1
          rw [if_pos rfl] at h1
          by_cases e2 : x = z
          · subst e2
            rw [if_pos rfl] at h2 ⊢
            exact ih h1 h2
          · rw [if_neg e2] at h2 ⊢; exact h2
        · rw [if_neg e1] at h1
          by_cases e2 : y = z
          · subst e2
            rw [if_neg e1]; exact h1
          · rw [if_neg e2] at h2
            simp only [decide_eq_true_eq] at h1 h2
            rw [if_neg (by omega)]
            simp only [decide_eq_true_eq]; omega
theorem less_asym {a b : List Int} (h : less a b = true) : less b a = false := by
  rw [Bool.eq_false_iff]
  intro h2
  have := less_trans h h2
  rw [less_irr] at this; cases this
theorem same_iff {a b : List Int} : same a b = true ↔ a = b := by
  unfold same
  constructor
  · intro h
    simp only [Bool.and_eq_true, Bool.not_eq_true'] at h
    rcases less_tri a b with h1 | h1 | h1
    · rw [h.1] at h1; cases h1
    · exact h1
    · rw [h.2] at h1; cases h1
  · rintro rfl; rw [less_irr]; rfl
def srt (ls : List (List Int)) : Prop := ls.Pairwise fun a b => less a b = true
def insL (a : List Int) : List (List Int) → List (List Int)
  | [] => [a]
  | x :: l => if less a x then a :: x :: l else x :: insL a l
def hasL (ls : List (List Int)) (a : List Int) : Bool := ls.any fun x => same x a
def addL (ls : List (List Int)) (a : List Int) : List (List Int) := if hasL ls a then ls else insL a ls
theorem hasL_iff {ls : List (List Int)} {a : List Int} : hasL ls a = true ↔ a ∈ ls := by
  unfold hasL
  rw [List.any_eq_true]
  constructor
  · rintro ⟨x, hx, h⟩
    rw [← same_iff.1 h]; exact hx
  · intro h; exact ⟨a, h, same_iff.2 rfl⟩
theorem mem_insL {a x : List Int} : ∀ {l : List (List Int)}, x ∈ insL a l ↔ x = a ∨ x ∈ l := by
  intro l
  induction l with
  | nil => simp [insL]
  | cons y l ih =>
    unfold insL
    split
    · simp
    · simp only [List.mem_cons, ih]
      constructor
      · rintro (h | h | h)
        · exact .inr (.inl h)
        · exact .inl h
        · exact .inr (.inr h)
      · rintro (h | h | h)
        · exact .inr (.inl h)
        · exact .inl h
        · exact .inr (.inr h)
theorem insL_srt {a : List Int} : ∀ {l : List (List Int)}, srt l → a ∉ l → srt (insL a l) := by
  intro l
  induction l with
  | nil => intro _ _; simp [insL, srt]
  | cons y l ih =>
    intro h hn
    have hy := List.pairwise_cons.1 h
    simp only [List.mem_cons, not_or] at hn
    unfold insL
    split
    · rename_i hl
      refine List.pairwise_cons.2 ⟨fun z hz => ?_, h⟩
      rcases List.mem_cons.1 hz with rfl | hz
      · exact hl
      · exact less_trans hl (hy.1 z hz)
    · rename_i hl
      refine List.pairwise_cons.2 ⟨fun z hz => ?_, ih hy.2 hn.2⟩
      rcases mem_insL.1 hz with rfl | hz
      · rcases less_tri z y with h1 | h1 | h1
        · exact absurd h1 hl
        · exact absurd h1 hn.1
        · exact h1
      · exact hy.1 z hz
theorem mem_addL {ls : List (List Int)} {a x : List Int} : x ∈ addL ls a ↔ x = a ∨ x ∈ ls := by
  unfold addL
  split
  · rename_i h
    have := hasL_iff.1 h
    constructor
    · exact .inr
    · rintro (rfl | h)
      · exact this
      · exact h
  · exact mem_insL
theorem addL_srt {ls : List (List Int)} {a : List Int} (h : srt ls) : srt (addL ls a) := by
  unfold addL
  split
  · exact h
  · rename_i hn
    exact insL_srt h fun hm => hn (hasL_iff.2 hm)
inductive Yk (g : Gram) : Nat → List Int → List Int → Prop
  | nil : Yk g 0 [] []
  | term {n : Nat} {s : Int} {rest w : List Int} (h : s < 0) (k : Yk g n rest w) : Yk g n (s :: rest) ((-s - 1) :: w)
  | var {n m i : Nat} (h : i < g.rules.length) {rest a b : List Int} (x : Yk g n g.rules[i].right a) (k : Yk g m rest b) : Yk g (n + m + 1) (g.rules[i].left :: rest) (a ++ b)
theorem yd_yk {g : Gram} {l w : List Int} (h : Yd g l w) : ∃ n, Yk g n l w := by
  induction h with
  | nil => exact ⟨0, .nil⟩
  | term h _ ih => obtain ⟨n, h1⟩ := ih; exact ⟨n, .term h h1⟩
  | var h _ _ ih1 ih2 => obtain ⟨n, h1⟩ := ih1; obtain ⟨m, h2⟩ := ih2; exact ⟨_, .var h h1 h2⟩
theorem yk_append {g : Gram} {n m : Nat} {a b u v : List Int} (h : Yk g n a u) (k : Yk g m b v) : Yk g (n + m) (a ++ b) (u ++ v) := by
  induction h with
  | nil => rw [Nat.zero_add]; exact k
  | term h _ ih => exact .term h ih
  | @var p q i h rest a b x _ _ ih =>
    rw [List.cons_append, List.append_assoc, show p + q + 1 + m = p + (q + m) + 1 by omega]
    exact .var h x ih
theorem yk_first {g : Gram} (hg : InG g) {v : Int} (h0 : 0 ≤ v) {rest : List Int} : ∀ (t : List Int) (n : Nat) (x : List Int), (∀ s ∈ t, s < 0) → Yk g n (t ++ v :: rest) x → ∃ m, ∃ i, ∃ hi : i < g.rules.length, n = m + 1 ∧ g.rules[i].left = v ∧ Yk g m (t ++ g.rules[i].right ++ rest) x := by
  intro t
  induction t with
  | nil =>
    intro n x _ h
    rw [List.nil_append] at h
    generalize hl : v :: rest = l at h
    cases h with
    | nil => cases hl
    | term h _ => injection hl with e1 e2; omega
    | @var p q i hi rest' a b hx hk =>
      injection hl with e1 e2
      subst e2
      exact ⟨p + q, i, hi, rfl, e1.symm, by rw [List.nil_append]; exact yk_append hx hk⟩
  | cons s t ih =>
    intro n x ht h
    rw [List.cons_append] at h
    have hs := ht s (by simp)
    generalize hl : s :: (t ++ v :: rest) = l at h
    cases h with
    | nil => cases hl
    | @term n s' rest' w hs' hk =>
      injection hl with e1 e2
      subst e1; subst e2
      obtain ⟨m, i, hi, h1, h2, h3⟩ := ih n w (fun y hy => ht y (by simp [hy])) hk
      exact ⟨m, i, hi, h1, h2, by simpa using Yk.term hs' h3⟩
    | @var p q i hi rest' a b hx hk =>
      injection hl with e1 e2
      have := hg.left0 _ (List.getElem_mem hi)
      omega
theorem yd_neg {g : Gram} (hg : InG g) : ∀ {t : List Int}, (∀ s ∈ t, s < 0) → ∀ {w : List Int}, Yd g t w → w = t.map fun s => -s - 1 := by
  intro t
  induction t with
  | nil => intro _ w h; cases h; rfl
  | cons s t ih =>
    intro ht w h
    have hs := ht s (by simp)
    generalize hl : s :: t = l at h
    cases h with
    | nil => cases hl
    | term h k => injection hl with e1 e2; subst e1; subst e2; rw [ih (fun y hy => ht y (by simp [hy])) k]; rfl
    | var hi _ _ => injection hl with e1 e2; have := hg.left0 _ (List.getElem_mem hi); omega
structure Wst (g : Gram) (c : Nat → Nat) (most : Nat) (T : List (List Int)) (at_ : Nat) (out : List (List Int)) : Prop where
  start : [0] ∈ T
  snd : ∀ F ∈ T, ∀ z, Yd g F z → Yd g [0] z
  done : ∀ i F, i < at_ → T[i]? = some F → sumF c 0 F ≤ most → ((∀ s ∈ F, s < 0) → (F.map fun s => -s - 1) ∈ out) ∧ (∀ t v rest, F = t ++ v :: rest → (∀ s ∈ t, s < 0) → 0 ≤ v → ∀ k (hk : k < g.rules.length), g.rules[k].left = v → t ++ g.rules[k].right ++ rest ∈ T)
  osnd : ∀ x ∈ out, Yd g [0] x ∧ x.length ≤ most
  osrt : srt out
theorem Wst.over {g : Gram} (hg : InG g) {c : Nat → Nat} {b : Nat → Int} (hc : CostOK g c b) {most : Nat} (hm : most < farN) {T out : List (List Int)} (h : Wst g c most T T.length out) : ∀ x, x ∈ out ↔ Yd g [0] x ∧ x.length ≤ most := by
  intro x
  constructor
  · exact h.osnd x
  · rintro ⟨hy, hl⟩
    have key : ∀ (n : Nat) (F : List Int), F ∈ T → Yk g n F x → x ∈ out := by
      intro n
      induction n with
      | zero =>
        intro F hF hk
        have hyd : ∀ {n l w}, Yk g n l w → Yd g l w := by
          intro n l w h
          induction h with
          | nil => exact .nil
          | term h _ ih => exact .term h ih
          | var h _ _ ih1 ih2 => exact .var h ih1 ih2
        obtain ⟨i, hi, rfl⟩ := List.getElem_of_mem hF
        have hlong : sumF c 0 T[i] ≤ most := by
          have h1 := yd_cost hg hc (hyd hk) (by omega)
          have h2 := sumF_le_sumC c T[i] 0
          omega
        have hd := h.done i _ hi (List.getElem?_eq_getElem hi) hlong
        have hneg : ∀ s ∈ T[i], s < 0 := by
          have : ∀ {n l w}, Yk g n l w → n = 0 → ∀ s ∈ l, s < 0 := by
            intro n l w h
            induction h with
            | nil => intro _ s hs; cases hs
            | term h _ ih =>
              intro e s hs
              rcases List.mem_cons.1 hs with rfl | hs
              · exact h
              · exact ih e s hs
            | var => intro e; omega
          exact this hk rfl
        have := yd_neg hg hneg (hyd hk)
        rw [this]; exact hd.1 hneg
      | succ n ih =>
        intro F hF hk
        have hyd : ∀ {n l w}, Yk g n l w → Yd g l w := by
          intro n l w h
          induction h with
          | nil => exact .nil
          | term h _ ih => exact .term h ih
          | var h _ _ ih1 ih2 => exact .var h ih1 ih2
        obtain ⟨i, hi, rfl⟩ := List.getElem_of_mem hF
        have hlong : sumF c 0 T[i] ≤ most := by
          have h1 := yd_cost hg hc (hyd hk) (by omega)
          have h2 := sumF_le_sumC c T[i] 0
          omega
        have hd := h.done i _ hi (List.getElem?_eq_getElem hi) hlong
        have hsp : ∀ {n l w}, Yk g n l w → n ≠ 0 → ∃ t v rest, l = t ++ v :: rest ∧ (∀ s ∈ t, s < 0) ∧ 0 ≤ v := by
          intro n l w h
          induction h with
          | nil => intro e; exact absurd rfl e
          | @term n s rest w h _ ih =>
            intro e
            obtain ⟨t, v, r, h1, h2, h3⟩ := ih e
            exact ⟨s :: t, v, r, by rw [h1]; rfl, fun y hy => by
              rcases List.mem_cons.1 hy with rfl | hy
              · exact h
              · exact h2 y hy, h3⟩
          | @var n m i h rest a b _ _ _ _ => intro _; exact ⟨[], _, rest, rfl, (fun y hy => by cases hy), hg.left0 _ (List.getElem_mem h)⟩
        obtain ⟨t, v, rest, e, ht, h0⟩ := hsp hk (by omega)
        rw [e] at hk
        obtain ⟨m, k, hk', h1, h2, h3⟩ := yk_first hg h0 t _ x ht hk
        have : m = n := by omega
        subst this
        exact ih _ (hd.2 t v rest e ht h0 k hk' h2) h3
    obtain ⟨n, hn⟩ := yd_yk hy
    exact key n [0] h.start hn
end Go.Proofs.Ytpdlmpbhohinpaa
