/- A part of a proof. Its conditions: none. -/
import Derived.Test.YtpdlmpbhohinpaaAmCChRefY
set_option linter.all false
namespace Go.Proofs.Ytpdlmpbhohinpaa
open Go.AM Go.RowKit
set_option maxRecDepth 100000
theorem LT.zk {n : Nat} {H H' : Heap} {cs : List Value} {ls : List (List Int)} (h : LT H cs ls) (hw : WF n H) (k : ZK (fun q => q < n) H H') : LT H' cs ls := ⟨h.1, fun i l hi => by
  obtain ⟨p, a, x, kk, ds, own, b, c, d⟩ := h.2 i l hi
  exact ⟨p, a, x, kk, ds, own, b, k.2 x _ _ _ (Classical.byContradiction fun hc => by rw [hw x (by omega)] at c; cases c) c, d⟩⟩
theorem pref_eq {g : Gram} {gd em : List Bool} : ∀ (w : List Int) (s : List (List It)) (n : Nat), n ≤ w.length → ((w.take n).foldlM (pushS g gd em) s).isSome = true → (n < w.length → ((w.take (n + 1)).foldlM (pushS g gd em) s).isSome = false) → prefS g gd em s w = n := by
  intro w
  induction w with
  | nil => intro s n hn _ _; simp at hn; subst hn; rfl
  | cons t w ih =>
    intro s n hn h1 h2
    rw [prefS_cons]
    cases n with
    | zero =>
      have := h2 (by simp)
      rw [List.take_succ_cons, List.take_zero, List.foldlM_cons] at this
      cases hp : pushS g gd em s t with
      | none => rfl
      | some s' => rw [hp] at this; cases this
    | succ n =>
      rw [List.take_succ_cons, List.foldlM_cons] at h1
      cases hp : pushS g gd em s t with
      | none => rw [hp] at h1; cases h1
      | some s' =>
        rw [hp] at h1
        simp only
        rw [ih s' n (by simpa using hn) h1 fun hlt => ?_]
        have := h2 (by simp; omega)
        rw [List.take_succ_cons, List.foldlM_cons, hp] at this
        exact this
theorem take_map {csw : List Value} {kw nn : Nat} {w : List Int} (hl : kw + w.length ≤ csw.length) (he : ∀ i y, w[i]? = some y → csw[kw + i]? = some (Value.int .i64 y)) (hn : nn ≤ w.length) : (csw.drop kw).take nn = (w.take nn).map (Value.int .i64) := by
  apply List.ext_getElem?
  intro i
  rw [List.getElem?_take, List.getElem?_map, List.getElem?_take]
  by_cases hi : i < nn
  · rw [if_pos hi, if_pos hi, List.getElem?_drop, he i _ (List.getElem?_eq_getElem (by omega)), List.getElem?_eq_getElem (by omega)]
    rfl
  · rw [if_neg hi, if_neg hi]; rfl
theorem RA.takeN {H : Heap} {a : Option Addr} {w : List Int} (h : RA (Value.int .i64) H a w) (nn : Nat) : RA (Value.int .i64) H a (w.take nn) := fun hne => by
  obtain ⟨q, k, cs, ty, own, e1, e2, e3⟩ := h (fun e => hne (by rw [e]; simp))
  exact ⟨q, k, cs, ty, own, e1, e2, fun i y e => e3 i y (by rw [List.getElem?_take] at e; split at e; exact e; cases e)⟩
theorem finR_least {g : Gram} (ok : RightOK g) {c : Nat → Nat} {b : Nat → Int} (hc : CostOK g c b) : ∀ (k : Nat) (u m : List Int), (runS g u).isSome = true → shortR g c u = k → k < farN → m.length = k → Yd g [0] (u ++ m) → less m (finR g c k u) = false := by
  intro k
  induction k with
  | zero =>
    intro u m _ _ _ hm _
    have : m = [] := List.length_eq_zero_iff.1 hm
    subst this
    exact less_irr _
  | succ k ih =>
    intro u m h hk hl hm hy
    cases m with
    | nil => simp at hm
    | cons t m =>
      have hy' : Yd g [0] ((u ++ [t]) ++ m) := by rw [List.append_assoc]; exact hy
      have hr := run_some ok (u ++ [t]) m hy'
      have hml : m.length = k := by simpa using hm
      have h1 := shortR_le ok hc hy' (by omega)
      have hsk : shortR g c (u ++ [t]) = k := by
        obtain ⟨v', hv', hy''⟩ := shortR_word ok hc hr (by omega)
        rw [List.append_assoc, List.singleton_append] at hy''
        have h2 := shortR_le ok hc hy'' (by simp; omega)
        simp at h2
        omega
      have htm := (nextR_iff h).2 hr
      unfold finR
      cases hf : (nextR g u).find? (fun t => decide (shortR g c (u ++ [t]) = k)) with
      | none => rw [List.find?_eq_none] at hf; have := hf t htm; simp [hsk] at this
      | some t' =>
        have hp' := List.find?_some hf
        have hm' := List.mem_of_find?_eq_some hf
        simp only [decide_eq_true_eq] at hp'
        have hle : t' ≤ t := by
          have hs := nextR_le2 (g := g) (u := u)
          obtain ⟨_, a, b, hab, hna⟩ := List.find?_eq_some_iff_append.1 hf
          rw [hab] at hs htm
          rcases List.mem_append.1 htm with h2 | h2
          · have := hna t h2
            simp [hsk] at this
          · rcases List.mem_cons.1 h2 with h3 | h3
            · omega
            · exact (List.pairwise_cons.1 (List.pairwise_append.1 hs).2.1).1 t h3
        simp only [less]
        by_cases e : t = t'
        · subst e
          rw [if_pos rfl]
          exact ih (u ++ [t]) m hr hsk (by omega) hml hy'
        · rw [if_neg e]
          simp only [decide_eq_false_iff_not]
          omega
theorem less_app : ∀ (u a b : List Int), less (u ++ a) (u ++ b) = less a b := by
  intro u
  induction u with
  | nil => intro a b; rfl
  | cons x u ih => intro a b; simp [less, ih]
theorem fin_same {g : Gram} (ok : RightOK g) {c : Nat → Nat} {b : Nat → Int} (hc : CostOK g c b) {ws : List (List Int)} (hs : srt ws) (hws : ∀ x, x ∈ ws ↔ Yd g [0] x ∧ x.length ≤ 6) {u : List Int} (h : (runS g u).isSome = true) :
    ((finS ws u).2 = true → shortR g c u + u.length ≤ 6 ∧ (finS ws u).1 = u ++ finR g c (shortR g c u) u) ∧ ((finS ws u).2 = false → 6 < shortR g c u + u.length) := by
  obtain ⟨h1, h2⟩ := finS_ok u ws hs
  have hfar : farN = 1073741824 := rfl
  constructor
  · intro ht
    obtain ⟨h3, h4, h5⟩ := h2 ht
    obtain ⟨hy, hl⟩ := (hws _).1 h3
    have he : (finS ws u).1 = u ++ (finS ws u).1.drop u.length := by
      conv => lhs; rw [← List.take_append_drop u.length (finS ws u).1]
      rw [h4.2]
    generalize (finS ws u).1 = en at *
    generalize hd : en.drop u.length = d at *
    subst he
    rw [List.length_append] at hl
    have hsl := shortR_le ok hc hy (by omega)
    obtain ⟨hfl, hfy⟩ := finR_ok ok hc _ u h rfl (by omega)
    refine ⟨by omega, ?_⟩
    have hin : u ++ finR g c (shortR g c u) u ∈ ws := (hws _).2 ⟨hfy, by rw [List.length_append, hfl]; omega⟩
    have hb : begs u (u ++ finR g c (shortR g c u) u) := ⟨by simp, by simp⟩
    rcases h5 _ hin hb with h6 | ⟨h6, h7⟩
    · rw [List.length_append, List.length_append, hfl] at h6; omega
    · rw [List.length_append, List.length_append, hfl] at h6
      rw [less_app] at h7
      have h8 := finR_least ok hc _ u d h rfl (by omega) (by omega) hy
      rcases less_tri d (finR g c (shortR g c u) u) with h9 | h9 | h9
      · rw [h8] at h9; cases h9
      · rw [h9]
      · rw [h7] at h9; cases h9
  · intro hf
    apply Classical.byContradiction
    intro hn
    obtain ⟨v, hv, hy⟩ := shortR_word ok hc h (by omega)
    have hin : u ++ v ∈ ws := (hws _).2 ⟨hy, by rw [List.length_append]; omega⟩
    exact h1 hf _ hin ⟨by simp, by simp⟩
set_option maxHeartbeats 64000000 in
theorem words_gives {v : Value} {g : Gram} {a : Option Addr} {w : List Int} {n : Nat} {H : Heap} (hw : WF n H) (hg : RG H v g) (wg : WG g) (ha : RS (Value.int .i64) H a w) (hro : AllRO H) (hao : AO H a) (hwl : w.length ≤ maxL) (hi : ∀ t ∈ w, inI t) :
    Gives Try.prog 3 [v, .slice a w.length w.length] n H fun v _ _ => v = .bool true := by
  have hg0 := hg
  obtain ⟨pt, pv, pr, rfl, ht, hv, hr⟩ := hg
  have hro0 := rro_of hr hro
  refine Gives.of orders ok3 (Nat.le_of_ble_eq_true rfl) ?_
  have hk := Kp.new n H (.cells (gcells pt pv pr g) 25 true)
  have hb := hset_at H n (.cells (gcells pt pv pr g) 25 true)
  repeat (first | refine qqn rfl ?_)
  (refine WK.rgn ?_ ?_; kernel_rfl; simp (config := {maxSteps:=999999}) only [SS, qx0, forall_const, vun, Int.reduceEq, Int.reduceNeg, Nat.reduceGT, Nat.reduceLT, Nat.reduceLeDiff, Nat.reduceEqDiff, ↓reduceIte, reduceCtorEq, Int.reduceToNat, Int.reduceLE, Int.reduceLT, Nat.reduceAdd, Nat.reduceMul, box_cells, box_one, ff_3])
  generalize hset H n (.cells (gcells pt pv pr g) 25 true) = H1 at *
  repeat (first | refine qqn rfl ?_ | ((first | (refine WK.rgn ?_ ?_; kernel_rfl) | refine AtCall.now ?_); simp (config := {maxSteps:=999999}) only [SS, qx0, forall_const, vun, Int.reduceEq, Int.reduceNeg, Nat.reduceGT, Nat.reduceLT, Nat.reduceLeDiff, Nat.reduceEqDiff, ↓reduceIte, reduceCtorEq, Int.reduceToNat, Int.reduceLE, Int.reduceLT, Nat.reduceAdd, Nat.reduceMul, ff_3]) | refine qqj rfl ?_ | refine qqk rfl ?_)
  refine AtCall.by (alive_gives _ _) ?_
  rintro v n' H' hk' ⟨rfl, rfl, rfl⟩
  simp (config := {maxSteps:=999999}) only [SS, qx0, forall_const, vun, Int.reduceEq, Int.reduceNeg, Nat.reduceGT, Nat.reduceLT, Nat.reduceLeDiff, Nat.reduceEqDiff, ↓reduceIte, reduceCtorEq, Int.reduceToNat, Int.reduceLE, Int.reduceLT, Nat.reduceAdd, Nat.reduceMul, ff_3]
  repeat (first | refine qqn rfl ?_)
  first | refine qqj rfl ?_ | refine qqk rfl ?_
  repeat (first | refine qqn rfl ?_)
  (refine WK.rgn ?_ ?_; kernel_rfl; simp (config := {maxSteps:=999999}) only [SS, qx0, forall_const, vun, Int.reduceEq, Int.reduceNeg, Nat.reduceGT, Nat.reduceLT, Nat.reduceLeDiff, Nat.reduceEqDiff, ↓reduceIte, reduceCtorEq, Int.reduceToNat, Int.reduceLE, Int.reduceLT, Nat.reduceAdd, Nat.reduceMul, hb, gc_len, gc_all, ff_3])
  refine AtCall.by (few17_gives (hk.wf hw) (hg0.mono hw hk) wg) ?_
  rintro v n2 H2 k2 ⟨tt, rfl, hok⟩
  have kk2 := hk.trans k2
  have hb2 := (k2.keep n (by omega)).trans hb
  cases tt with
  | false =>
    simp (config := {maxSteps:=999999}) only [SS, qx0, forall_const, vun, Int.reduceEq, Int.reduceNeg, Nat.reduceGT, Nat.reduceLT, Nat.reduceLeDiff, Nat.reduceEqDiff, ↓reduceIte, reduceCtorEq, Int.reduceToNat, Int.reduceLE, Int.reduceLT, Nat.reduceAdd, Nat.reduceMul, ff_3]
    repeat (first | refine qqn rfl ?_ | ((first | (refine WK.rgn ?_ ?_; kernel_rfl) | refine AtCall.now ?_); simp (config := {maxSteps:=999999}) only [SS, qx0, forall_const, vun, Int.reduceEq, Int.reduceNeg, Nat.reduceGT, Nat.reduceLT, Nat.reduceLeDiff, Nat.reduceEqDiff, ↓reduceIte, reduceCtorEq, Int.reduceToNat, Int.reduceLE, Int.reduceLT, Nat.reduceAdd, Nat.reduceMul, ff_3]) | refine qqj rfl ?_ | refine qqk rfl ?_)
    (first | refine WK.retNil ⟨Or.inr rfl, _, rfl, ?_, ?_⟩ | refine WK.skipNil ⟨Or.inl rfl, _, rfl, ?_, ?_⟩)
    · exact kk2.keep
    · simp only [packed, fset_apply, Nat.reduceEqDiff, ↓reduceIte, List.getD_cons_zero, List.getD_cons_succ, ff_3]
  | true =>
  obtain ⟨hf, ok⟩ := hok rfl
  by_cases h4 : (4 : Int) < w.length
  · simp (config := {maxSteps:=999999}) only [SS, qx0, forall_const, vun, Int.reduceEq, Int.reduceNeg, Nat.reduceGT, Nat.reduceLT, Nat.reduceLeDiff, Nat.reduceEqDiff, ↓reduceIte, reduceCtorEq, Int.reduceToNat, Int.reduceLE, Int.reduceLT, Nat.reduceAdd, Nat.reduceMul, h4, ff_3]
    repeat (first | refine qqn rfl ?_ | ((first | (refine WK.rgn ?_ ?_; kernel_rfl) | refine AtCall.now ?_); simp (config := {maxSteps:=999999}) only [SS, qx0, forall_const, vun, Int.reduceEq, Int.reduceNeg, Nat.reduceGT, Nat.reduceLT, Nat.reduceLeDiff, Nat.reduceEqDiff, ↓reduceIte, reduceCtorEq, Int.reduceToNat, Int.reduceLE, Int.reduceLT, Nat.reduceAdd, Nat.reduceMul, ff_3]) | refine qqj rfl ?_ | refine qqk rfl ?_)
    (first | refine WK.retNil ⟨Or.inr rfl, _, rfl, ?_, ?_⟩ | refine WK.skipNil ⟨Or.inl rfl, _, rfl, ?_, ?_⟩)
    · exact kk2.keep
    · simp only [packed, fset_apply, Nat.reduceEqDiff, ↓reduceIte, List.getD_cons_zero, List.getD_cons_succ, ff_3]
  have hw2 := kk2.wf hw
  have hnle := hk.le
  have hnle2 := k2.le
  obtain ⟨_, _, _, _, _, cl0, bl0, _, _, _, _, _, hcost0, _⟩ := cost_gives hw2 (hg0.mono hw kk2) wg ok
  simp (config := {maxSteps:=999999}) only [SS, qx0, forall_const, vun, Int.reduceEq, Int.reduceNeg, Nat.reduceGT, Nat.reduceLT, Nat.reduceLeDiff, Nat.reduceEqDiff, ↓reduceIte, reduceCtorEq, Int.reduceToNat, Int.reduceLE, Int.reduceLT, Nat.reduceAdd, Nat.reduceMul, h4, ff_3]
  repeat (first | refine qqn rfl ?_ | ((first | (refine WK.rgn ?_ ?_; kernel_rfl) | refine AtCall.now ?_); simp (config := {maxSteps:=999999}) only [SS, qx0, forall_const, vun, Int.reduceEq, Int.reduceNeg, Nat.reduceGT, Nat.reduceLT, Nat.reduceLeDiff, Nat.reduceEqDiff, ↓reduceIte, reduceCtorEq, Int.reduceToNat, Int.reduceLE, Int.reduceLT, Nat.reduceAdd, Nat.reduceMul, hb2, gc_len, gc_all, ff_3]) | refine qqj rfl ?_ | refine qqk rfl ?_)
  refine AtCall.by (words17_gives hw2 (hg0.mono hw kk2) wg ok hf hcost0) ?_
  rintro v n3 H3 k3 hv3
  have kk3 := kk2.trans k3
  have hw3 := kk3.wf hw
  have hn3 := k3.le
  have hb3 := (k3.keep n (by omega)).trans hb2
  rcases hv3 with rfl | ⟨ws, zW, cW, rfl, hW1, hW2, hzW, ltW, hsrt, hwsl, hws⟩
  · simp (config := {maxSteps:=999999}) only [SS, qx0, forall_const, vun, Int.reduceEq, Int.reduceNeg, Nat.reduceGT, Nat.reduceLT, Nat.reduceLeDiff, Nat.reduceEqDiff, ↓reduceIte, reduceCtorEq, Int.reduceToNat, Int.reduceLE, Int.reduceLT, Nat.reduceAdd, Nat.reduceMul, ff_3]
    repeat (first | refine qqn rfl ?_ | ((first | (refine WK.rgn ?_ ?_; kernel_rfl) | refine AtCall.now ?_); simp (config := {maxSteps:=999999}) only [SS, qx0, forall_const, vun, Int.reduceEq, Int.reduceNeg, Nat.reduceGT, Nat.reduceLT, Nat.reduceLeDiff, Nat.reduceEqDiff, ↓reduceIte, reduceCtorEq, Int.reduceToNat, Int.reduceLE, Int.reduceLT, Nat.reduceAdd, Nat.reduceMul, ff_3]) | refine qqj rfl ?_ | refine qqk rfl ?_)
    (first | refine WK.retNil ⟨Or.inr rfl, _, rfl, ?_, ?_⟩ | refine WK.skipNil ⟨Or.inl rfl, _, rfl, ?_, ?_⟩)
    · exact kk3.keep
    · simp only [packed, fset_apply, Nat.reduceEqDiff, ↓reduceIte, List.getD_cons_zero, List.getD_cons_succ, ff_3]
  have hro3 : RRO H3 pr g.rules := hro0.sub (fun x hx => kk3.keep x (Classical.byContradiction fun hc => hx (hw x (by omega))))
  have hll : ∀ l ∈ ws, l.length ≤ 1000000 := fun l hl => by have := ((hws l).1 hl).2; omega
  simp (config := {maxSteps:=999999}) only [SS, qx0, forall_const, vun, Int.reduceEq, Int.reduceNeg, Nat.reduceGT, Nat.reduceLT, Nat.reduceLeDiff, Nat.reduceEqDiff, ↓reduceIte, reduceCtorEq, Int.reduceToNat, Int.reduceLE, Int.reduceLT, Nat.reduceAdd, Nat.reduceMul, ff_3]
  repeat (first | refine qqn rfl ?_ | ((first | (refine WK.rgn ?_ ?_; kernel_rfl) | refine AtCall.now ?_); simp (config := {maxSteps:=999999}) only [SS, qx0, forall_const, vun, Int.reduceEq, Int.reduceNeg, Nat.reduceGT, Nat.reduceLT, Nat.reduceLeDiff, Nat.reduceEqDiff, ↓reduceIte, reduceCtorEq, Int.reduceToNat, Int.reduceLE, Int.reduceLT, Nat.reduceAdd, Nat.reduceMul, hb3, gc_len, gc_all, ff_3]) | refine qqj rfl ?_ | refine qqk rfl ?_)
  refine AtCall.by (new_cw (H0 := H) hw3 (hg0.mono hw kk3) wg ok hf hro3) ?_
  rintro v n4 H4 k4 ⟨S, N, o, pt1, pv1, pr1, pg1, pe1, pc1, co, rfl, K, hno, cw4⟩
  have kk4 := kk3.trans k4
  have hw4 := kk4.wf hw
  have hn4 := k4.le
  have hNo : N > o := K.oN
  have hNn : N ≤ n4 := cw4.2.2.1
  obtain ⟨b, hcost⟩ := K.cost
  have hfar : farN = 1073741824 := rfl
  have lt4 := ltW.kp hw3 k4
  have hzW4 := (k4.keep zW (by omega)).trans hzW
  have hb4 := (k4.keep n (by omega)).trans hb3
  have ha4 := ha.mono hw kk4
  simp (config := {maxSteps:=999999}) only [SS, qx0, forall_const, vun, Int.reduceEq, Int.reduceNeg, Nat.reduceGT, Nat.reduceLT, Nat.reduceLeDiff, Nat.reduceEqDiff, ↓reduceIte, reduceCtorEq, Int.reduceToNat, Int.reduceLE, Int.reduceLT, Nat.reduceAdd, Nat.reduceMul, ff_3]
  repeat (first | refine qqn rfl ?_ | ((first | (refine WK.rgn ?_ ?_; kernel_rfl) | refine AtCall.now ?_); simp (config := {maxSteps:=999999}) only [SS, qx0, forall_const, vun, Int.reduceEq, Int.reduceNeg, Nat.reduceGT, Nat.reduceLT, Nat.reduceLeDiff, Nat.reduceEqDiff, ↓reduceIte, reduceCtorEq, Int.reduceToNat, Int.reduceLE, Int.reduceLT, Nat.reduceAdd, Nat.reduceMul, ff_3]) | refine qqj rfl ?_ | refine qqk rfl ?_)
  refine WK.cutBlock (fun s => ∃ i : Nat, Kx (fun z => z = o ∨ N ≤ z) n4 H4 s.n s.H ∧ ZK (fun z => z < n3) H4 s.H ∧ CW (fun z => z < n3) s.n s.H S N o pt1 pv1 pr1 pg1 pe1 pc1 g co (w.take i) ∧ s.f 1 = .slice a w.length w.length ∧ s.f 2 = .pointer (some ⟨n, 0, none⟩) ∧ s.f 5 = .slice (some ⟨zW, 0, none⟩) ws.length ws.length ∧ s.f 7 = .pointer (some ⟨o, 0, none⟩) ∧ s.f 8 = .int .i64 (i : Nat) ∧ i ≤ w.length ∧ (i < w.length → (runS g (w.take (i + 1))).isSome = false)) ?_ ?_
  · refine WK.loop (fun k s => ∃ i : Nat, Kx (fun z => z = o ∨ N ≤ z) n4 H4 s.n s.H ∧ ZK (fun z => z < n3) H4 s.H ∧ CW (fun z => z < n3) s.n s.H S N o pt1 pv1 pr1 pg1 pe1 pc1 g co (w.take i) ∧ s.f 1 = .slice a w.length w.length ∧ s.f 2 = .pointer (some ⟨n, 0, none⟩) ∧ s.f 5 = .slice (some ⟨zW, 0, none⟩) ws.length ws.length ∧ s.f 7 = .pointer (some ⟨o, 0, none⟩) ∧ s.f 8 = .int .i64 (i : Nat) ∧ i ≤ w.length ∧ k = w.length - i) w.length ?_ ?_
    · exact ⟨0, .refl _ _ _, .refl _ _, cw4, rfl, rfl, rfl, rfl, rfl, Nat.zero_le _, rfl⟩
    rintro k ⟨f, n5, H5⟩ ⟨i, kx5, zk5, cw5, f1, f2, f5, f7, f8, hil, rfl⟩ ih
    simp only at f1 f2 f5 f7 f8 kx5 zk5 cw5 ih
    have hn5 := kx5.le
    by_cases hlt : i < w.length
    · have ha5 : RA (Value.int .i64) H5 a w := (ha.mono hw ⟨by omega, fun x hx => (kx5.keep x (by omega) (by omega)).trans (kk4.keep x hx), fun _ => cw5.1⟩).ra
      obtain ⟨zp, kp, dsp, tp, op, rfl, hzp, e3⟩ := ha5.at hlt
      have hwi : IntKind.wrap .i64 ((i : Int) + 1) = ((i + 1 : Nat) : Int) := by rw [wrap_in (by omega) (by omega)]; rfl
      have hint := hi _ (List.getElem_mem hlt)
      have hti : w.take (i + 1) = w.take i ++ [w[i]] := List.take_succ_eq_append_getElem hlt
      generalize w[i] = x at *
      repeat (first | refine qqn rfl ?_ | ((first | (refine WK.rgn ?_ ?_; kernel_rfl) | refine AtCall.now ?_); simp (config := {maxSteps:=999999}) only [SS, qx0, forall_const, vun, Int.reduceEq, Int.reduceNeg, Nat.reduceGT, Nat.reduceLT, Nat.reduceLeDiff, Nat.reduceEqDiff, ↓reduceIte, reduceCtorEq, Int.reduceToNat, Int.reduceLE, Int.reduceLT, Nat.reduceAdd, Nat.reduceMul, f1, f2, f5, f7, f8, hlt, hzp, e3, ff_3]) | refine qqj rfl ?_ | refine qqk rfl ?_)
      refine AtCall.byX (push_cw (t := x) K cw5 (by rw [List.length_take]; omega) hint (fun z hz => by omega)) ?_
      rintro v n6 H6 kx6 ⟨rfl, zk6, cw6⟩
      rw [← hti] at cw6 ⊢
      cases hp : (runS g (w.take (i + 1))).isSome with
      | false =>
        rw [hp] at cw6
        simp (config := {maxSteps:=999999}) only [SS, qx0, forall_const, vun, Int.reduceEq, Int.reduceNeg, Nat.reduceGT, Nat.reduceLT, Nat.reduceLeDiff, Nat.reduceEqDiff, ↓reduceIte, reduceCtorEq, Int.reduceToNat, Int.reduceLE, Int.reduceLT, Nat.reduceAdd, Nat.reduceMul, ff_3]
        repeat (first | refine qqn rfl ?_ | ((first | (refine WK.rgn ?_ ?_; kernel_rfl) | refine AtCall.now ?_); simp (config := {maxSteps:=999999}) only [SS, qx0, forall_const, vun, Int.reduceEq, Int.reduceNeg, Nat.reduceGT, Nat.reduceLT, Nat.reduceLeDiff, Nat.reduceEqDiff, ↓reduceIte, reduceCtorEq, Int.reduceToNat, Int.reduceLE, Int.reduceLT, Nat.reduceAdd, Nat.reduceMul, f8, ff_3]) | refine qqj rfl ?_ | refine qqk rfl ?_)
        exact WK.skipNil ⟨rfl, i, kx5.trans (kx6.mono fun z _ h => h), zk5.trans zk6, by simpa using cw6, f1, f2, f5, f7, f8, hil, fun _ => hp⟩
      | true =>
        rw [hp, if_pos rfl] at cw6
        simp (config := {maxSteps:=999999}) only [SS, qx0, forall_const, vun, Int.reduceEq, Int.reduceNeg, Nat.reduceGT, Nat.reduceLT, Nat.reduceLeDiff, Nat.reduceEqDiff, ↓reduceIte, reduceCtorEq, Int.reduceToNat, Int.reduceLE, Int.reduceLT, Nat.reduceAdd, Nat.reduceMul, ff_3]
        repeat (first | refine qqn rfl ?_ | ((first | (refine WK.rgn ?_ ?_; kernel_rfl) | refine AtCall.now ?_); simp (config := {maxSteps:=999999}) only [SS, qx0, forall_const, vun, Int.reduceEq, Int.reduceNeg, Nat.reduceGT, Nat.reduceLT, Nat.reduceLeDiff, Nat.reduceEqDiff, ↓reduceIte, reduceCtorEq, Int.reduceToNat, Int.reduceLE, Int.reduceLT, Nat.reduceAdd, Nat.reduceMul, f8, hwi, ff_3]) | refine qqj rfl ?_ | refine qqk rfl ?_)
        refine ih (w.length - (i + 1)) (by omega) _ ?_
        exact ⟨i + 1, kx5.trans (kx6.mono fun z _ h => h), zk5.trans zk6, cw6, f1, f2, f5, f7, rfl, hlt, rfl⟩
    · repeat (first | refine qqn rfl ?_ | ((first | (refine WK.rgn ?_ ?_; kernel_rfl) | refine AtCall.now ?_); simp (config := {maxSteps:=999999}) only [SS, qx0, forall_const, vun, Int.reduceEq, Int.reduceNeg, Nat.reduceGT, Nat.reduceLT, Nat.reduceLeDiff, Nat.reduceEqDiff, ↓reduceIte, reduceCtorEq, Int.reduceToNat, Int.reduceLE, Int.reduceLT, Nat.reduceAdd, Nat.reduceMul, f1, f2, f5, f7, f8, hlt, ff_3]) | refine qqj rfl ?_ | refine qqk rfl ?_)
      exact WK.skipNil ⟨rfl, i, kx5, zk5, cw5, f1, f2, f5, f7, f8, hil, fun h => absurd h hlt⟩
  rintro ⟨f, n5, H5⟩ ⟨nn, kx5, zk5, cw5, f1, f2, f5, f7, f8, hnw, hmax⟩
  simp only at f1 f2 f5 f7 f8 kx5 zk5 cw5
  have hn5 := kx5.le
  have keep5 : ∀ x, x < n3 → H5 x = H3 x := fun x hx => (kx5.keep x (by omega) (by omega)).trans (k4.keep x hx)
  have hw5 := cw5.1
  have keep5' : ∀ x, x < n → H5 x = H x := fun x hx => (keep5 x (by omega)).trans (kk3.keep x hx)
  have hb5 := (keep5 n (by omega)).trans hb3
  have hg5 : RG H5 (.agg (gcells pt pv pr g).toArray) g := hg0.mono hw ⟨by omega, fun x hx => (keep5 x (by omega)).trans (kk3.keep x hx), fun _ => hw5⟩
  have ha5 : RS (Value.int .i64) H5 a w := ha.mono hw ⟨by omega, fun x hx => (keep5 x (by omega)).trans (kk3.keep x hx), fun _ => hw5⟩
  have hzW5 := (keep5 zW (by omega)).trans hzW
  have lt5 : LT H5 cW ws := ltW.zk hw3 ((ZK.kp k4 hw3).trans zk5)
  have hsome := cw5.some
  have hul : (w.take nn).length = nn := by rw [List.length_take]; omega
  have hpeq := pref_eq (g := g) (gd := gdG g) (em := emG g) w (newS g (gdG g) (emG g)) nn hnw hsome hmax
  have hw46 : w.length ≤ 4 := by omega
  have hacc1 : accW g (gdG g) (emG g) (newS g (gdG g) (emG g)) w = hasL ws w := by
    rw [Bool.eq_iff_iff, accW_iff ok, hasL_iff, hws]
    exact ⟨fun h => ⟨h, by omega⟩, fun h => h.1⟩
  have hacc2 : accR g (w.take nn) = hasL ws (w.take nn) := by
    rw [Bool.eq_iff_iff, accR_iff ok hsome, hasL_iff, hws]
    exact ⟨fun h => ⟨h, by omega⟩, fun h => h.1⟩
  have hru : RA (Value.int .i64) H5 a (w.take nn) := fun hne => by
    obtain ⟨q, k, cs, ty, own, e1, e2, e3⟩ := ha5.ra (fun e => hne (by rw [e]; simp))
    exact ⟨q, k, cs, ty, own, e1, e2, fun i y e => e3 i y (by rw [List.getElem?_take] at e; split at e; exact e; cases e)⟩
  obtain ⟨hf1, hf2⟩ := fin_same ok hcost hsrt hws hsome
  obtain ⟨hnd, hnl⟩ := nextR_nodup ok hsome
  have htl := K.htl
  have hn4' : w.length ≤ 1000000 := by omega
  generalize hu : w.take nn = u at *
  rcases id ha5 with ⟨rfl, rfl⟩ | ⟨zw, kw, csw, tw, ow, rfl, hzw, hlw, hew⟩
  ·
    have hn0 : nn = 0 := by simpa using hnw
    rw [hn0] at f8
    have h00 : (((0 : Nat) : Int) ≤ ((0 : Nat) : Int)) = True := by simp
    have e8 : (((0 : Nat) : Int) = ((0 : Nat) : Int)) = True := eq_true rfl
    apply WK.skipSeq
    apply WK.seq
    apply WK.seq
    (refine WK.rgn ?_ ?_; kernel_rfl; simp (config := {maxSteps:=999999}) only [SS, qx0, forall_const, vun, Int.reduceEq, Int.reduceNeg, Nat.reduceGT, Nat.reduceLT, Nat.reduceLeDiff, Nat.reduceEqDiff, ↓reduceIte, reduceCtorEq, Int.reduceToNat, Int.reduceLE, Int.reduceLT, Nat.reduceAdd, Nat.reduceMul, f1, f2, f5, f7, f8, ff_3])
    refine AtCall.by (len_cw cw5) ?_
    rintro v n6 H6 k6 rfl
    rw [hul, hn0]
    have cw6 := cw5.kp k6
    have hn6 := k6.le
    simp (config := {maxSteps:=999999}) only [SS, qx0, forall_const, vun, Int.reduceEq, Int.reduceNeg, Nat.reduceGT, Nat.reduceLT, Nat.reduceLeDiff, Nat.reduceEqDiff, ↓reduceIte, reduceCtorEq, Int.reduceToNat, Int.reduceLE, Int.reduceLT, Nat.reduceAdd, Nat.reduceMul, f7, f8, e8, ff_3]
    refine AtCall.by (word_cw cw6 (by omega)) ?_
    rintro v n7 H7 k7 wo7
    have k57 := k6.trans k7
    have cw7 := cw6.kp k7
    have hw7 := cw7.1
    have hn7 := k7.le
    obtain ⟨q7, rfl, hq7⟩ := wo7.rs
    simp (config := {maxSteps:=999999}) only [SS, qx0, forall_const, vun, Int.reduceEq, Int.reduceNeg, Nat.reduceGT, Nat.reduceLT, Nat.reduceLeDiff, Nat.reduceEqDiff, ↓reduceIte, reduceCtorEq, Int.reduceToNat, Int.reduceLE, Int.reduceLT, Nat.reduceAdd, Nat.reduceMul, f1, f8, List.length_nil, aop_slnil und_26 inf_int, h00, ff_3]
    have hsm := same_gives (n := n7) hq7.ra (hru.mono hw5 k57) (by unfold maxL; omega) (by unfold maxL; omega)
    rw [hul, hn0] at hsm
    rw [hul, hn0]
    refine AtCall.by hsm ?_
    rintro v n8 H8 k8 ⟨rfl, rfl, rfl⟩
    rw [same_refl]
    have hb7 := (k57.keep n (by omega)).trans hb5
    simp (config := {maxSteps:=999999}) only [SS, qx0, forall_const, vun, Int.reduceEq, Int.reduceNeg, Nat.reduceGT, Nat.reduceLT, Nat.reduceLeDiff, Nat.reduceEqDiff, ↓reduceIte, reduceCtorEq, Int.reduceToNat, Int.reduceLE, Int.reduceLT, Nat.reduceAdd, Nat.reduceMul, f2, f1, hb7, gc_len, gc_all, ff_3]
    refine AtCall.by (prefix_gives hw7 (hg5.mono hw5 k57) wg ok hf (ha5.mono hw5 k57).ra (by omega) hi) ?_
    rintro v n9 H9 k9 rfl
    rw [hpeq]
    rw [hn0]
    have k59 := k57.trans k9
    have hn9 := k9.le
    have hb9 := (k59.keep n (by omega)).trans hb5
    have cw9 := cw7.kp k9
    have hw9 := cw9.1
    simp (config := {maxSteps:=999999}) only [SS, qx0, forall_const, vun, Int.reduceEq, Int.reduceNeg, Nat.reduceGT, Nat.reduceLT, Nat.reduceLeDiff, Nat.reduceEqDiff, ↓reduceIte, reduceCtorEq, Int.reduceToNat, Int.reduceLE, Int.reduceLT, Nat.reduceAdd, Nat.reduceMul, f1, f2, f8, e8, hb9, gc_len, gc_all, ff_3]
    refine AtCall.by (accepts_gives hw9 (hg5.mono hw5 k59) wg ok hf (ha5.mono hw5 k59).ra (by omega) hi) ?_
    rintro v n10 H10 k10 rfl
    rw [hacc1]
    have k510 := k59.trans k10
    have hn10 := k10.le
    have cw10 := cw9.kp k10
    have hw10 := cw10.1
    have zW10 := (k510.keep zW (by omega)).trans hzW5
    have lt10 := lt5.kp hw5 k510
    simp (config := {maxSteps:=999999}) only [SS, qx0, forall_const, vun, Int.reduceEq, Int.reduceNeg, Nat.reduceGT, Nat.reduceLT, Nat.reduceLeDiff, Nat.reduceEqDiff, ↓reduceIte, reduceCtorEq, Int.reduceToNat, Int.reduceLE, Int.reduceLT, Nat.reduceAdd, Nat.reduceMul, f1, f5, ff_3]
    refine AtCall.by (has_gives zW10 lt10.la (by omega) (ha5.mono hw5 k510).ra (by omega) hll) ?_
    rintro v n11 H11 k11 ⟨rfl, rfl, rfl⟩
    simp (config := {maxSteps:=999999}) only [SS, qx0, forall_const, vun, Int.reduceEq, Int.reduceNeg, Nat.reduceGT, Nat.reduceLT, Nat.reduceLeDiff, Nat.reduceEqDiff, ↓reduceIte, reduceCtorEq, Int.reduceToNat, Int.reduceLE, Int.reduceLT, Nat.reduceAdd, Nat.reduceMul, f7, beq_self_eq_true, ff_3]
    refine AtCall.by (acc_cw K cw10 (by omega)) ?_
    rintro v n12 H12 k12 rfl
    rw [hacc2]
    have k512 := k510.trans k12
    have hn12 := k12.le
    have cw12 := cw10.kp k12
    have hw12 := cw12.1
    have zW12 := (k512.keep zW (by omega)).trans hzW5
    have lt12 := lt5.kp hw5 k512
    simp (config := {maxSteps:=999999}) only [SS, qx0, forall_const, vun, Int.reduceEq, Int.reduceNeg, Nat.reduceGT, Nat.reduceLT, Nat.reduceLeDiff, Nat.reduceEqDiff, ↓reduceIte, reduceCtorEq, Int.reduceToNat, Int.reduceLE, Int.reduceLT, Nat.reduceAdd, Nat.reduceMul, f1, f5, f8, List.length_nil, aop_slnil und_26 inf_int, h00, ff_3]
    have hsm2 := has_gives (n := n12) zW12 lt12.la (by omega) (hru.mono hw5 k512) (by omega) hll
    rw [hul, hn0] at hsm2
    refine AtCall.by hsm2 ?_
    rintro v n13 H13 k13 ⟨rfl, rfl, rfl⟩
    simp (config := {maxSteps:=999999}) only [SS, qx0, forall_const, vun, Int.reduceEq, Int.reduceNeg, Nat.reduceGT, Nat.reduceLT, Nat.reduceLeDiff, Nat.reduceEqDiff, ↓reduceIte, reduceCtorEq, Int.reduceToNat, Int.reduceLE, Int.reduceLT, Nat.reduceAdd, Nat.reduceMul, beq_self_eq_true, ff_3]
    repeat (first | refine qqn rfl ?_ | ((first | (refine WK.rgn ?_ ?_; kernel_rfl) | refine AtCall.now ?_); simp (config := {maxSteps:=999999}) only [SS, qx0, forall_const, vun, Int.reduceEq, Int.reduceNeg, Nat.reduceGT, Nat.reduceLT, Nat.reduceLeDiff, Nat.reduceEqDiff, ↓reduceIte, reduceCtorEq, Int.reduceToNat, Int.reduceLE, Int.reduceLT, Nat.reduceAdd, Nat.reduceMul, f1, f2, f5, f7, f8, List.length_nil, aop_slnil und_26 inf_int, h00, ff_3]) | refine qqj rfl ?_ | refine qqk rfl ?_)
    have hsm3 := fin17_gives (n := n13) hw12 zW12 lt12 (by omega) (hru.mono hw5 k512) (by omega) hll
    rw [hul, hn0] at hsm3
    refine AtCall.by hsm3 ?_
    rintro v n14 H14 k14 ⟨pe, rfl, hpe, hpl⟩
    have k514 := k512.trans k14
    have hn14 := k14.le
    have cw14 := cw12.kp k14
    have hw14 := cw14.1
    have hvp : ∀ q k, pe = some ⟨q, k, none⟩ → q < n3 ∨ n13 ≤ q := by
      rintro q k rfl
      rcases hpl with ⟨i, e1, e2⟩ | e
      · obtain ⟨p', c1, x, kk, ds, own, c2, c3, _⟩ := ltW.2 i _ e1
        rw [e2] at c1
        cases c1
        cases c2
        exact .inl (Classical.byContradiction fun hc => by rw [hw3 q (by omega)] at c3; cases c3)
      · cases e; exact .inr (Nat.le_refl _)
    have cwz : CW (fun q => q < n3 ∨ ∃ k, pe = some ⟨q, k, none⟩) n14 H14 S N o pt1 pv1 pr1 pg1 pe1 pc1 g co u := cw12.kpz k14 fun q hq => by
      rcases hq with hq | ⟨k, hq⟩
      · exact .inl hq
      · exact hvp q k hq
    have hzz : ∀ q, (q < n3 ∨ ∃ k, pe = some ⟨q, k, none⟩) → q < n14 := by
      rintro q (hq | ⟨k, rfl⟩)
      · omega
      · obtain ⟨x, kk, ds, own, c2, c3, _⟩ := hpe
        cases c2
        exact Classical.byContradiction fun hc => by rw [hw14 q (by omega)] at c3; cases c3
    clear hpl
    generalize hfn : finS ws u = fn at *
    obtain ⟨en, is⟩ := fn
    simp only at hf1 hf2 hpe ⊢
    simp (config := {maxSteps:=999999}) only [SS, qx0, forall_const, vun, Int.reduceEq, Int.reduceNeg, Nat.reduceGT, Nat.reduceLT, Nat.reduceLeDiff, Nat.reduceEqDiff, ↓reduceIte, reduceCtorEq, Int.reduceToNat, Int.reduceLE, Int.reduceLT, Nat.reduceAdd, Nat.reduceMul, ff_3]
    apply WK.skipSeq
    apply WK.seq
    refine WK.cut (fun s => Kx (fun z => z = o ∨ N ≤ z) n14 H14 s.n s.H ∧ ZK (fun z => z < n3) H14 s.H ∧ CW (fun z => z < n3) s.n s.H S N o pt1 pv1 pr1 pg1 pe1 pc1 g co u ∧ s.f 1 = f 1 ∧ s.f 5 = f 5 ∧ s.f 7 = f 7 ∧ s.f 8 = f 8) ?_ ?_
    · cases is with
      | false =>
        have h6 := hf2 rfl
        have hsf : shortR g (cF co) u ≤ farN := shortR_far
        repeat (first | refine qqn rfl ?_ | ((first | (refine WK.rgn ?_ ?_; kernel_rfl) | refine AtCall.now ?_); simp (config := {maxSteps:=999999}) only [SS, qx0, forall_const, vun, Int.reduceEq, Int.reduceNeg, Nat.reduceGT, Nat.reduceLT, Nat.reduceLeDiff, Nat.reduceEqDiff, ↓reduceIte, reduceCtorEq, Int.reduceToNat, Int.reduceLE, Int.reduceLT, Nat.reduceAdd, Nat.reduceMul, f7, ff_3]) | refine qqj rfl ?_ | refine qqk rfl ?_)
        refine AtCall.by (short_cw K cw14 (by omega)) ?_
        rintro v n15 H15 k15 rfl
        generalize shortR g (cF co) u = s0 at *
        skip
        have hwr : IntKind.wrap .i64 ((s0 : Int) + ((0 : Nat) : Int)) = ((s0 + 0 : Nat) : Int) := by rw [wrap_in (by omega) (by omega)]; omega
        have e6 : (((s0 + 0 : Nat) : Int) ≤ 6) = False := eq_false (by omega)
        simp (config := {maxSteps:=999999}) only [SS, qx0, forall_const, vun, Int.reduceEq, Int.reduceNeg, Nat.reduceGT, Nat.reduceLT, Nat.reduceLeDiff, Nat.reduceEqDiff, ↓reduceIte, reduceCtorEq, Int.reduceToNat, Int.reduceLE, Int.reduceLT, Nat.reduceAdd, Nat.reduceMul, f8, ff_3]
        have e7 : (((s0 : Nat) : Int) ≤ 6) = False := eq_false (by omega)
        repeat (first | refine qqn rfl ?_ | ((first | (refine WK.rgn ?_ ?_; kernel_rfl) | refine AtCall.now ?_); simp (config := {maxSteps:=999999}) only [SS, qx0, forall_const, vun, Int.reduceEq, Int.reduceNeg, Nat.reduceGT, Nat.reduceLT, Nat.reduceLeDiff, Nat.reduceEqDiff, ↓reduceIte, reduceCtorEq, Int.reduceToNat, Int.reduceLE, Int.reduceLT, Nat.reduceAdd, Nat.reduceMul, f8, hwr, e7, ff_3]) | refine qqj rfl ?_ | refine qqk rfl ?_)
        exact WK.skipNil ⟨rfl, k15.kx, ZK.kp k15 hw14, cw14.kp k15, (by first | rfl | exact f1), (by first | rfl | exact f5), (by first | rfl | exact f7), (by first | rfl | exact f8)⟩
      | true =>
        obtain ⟨hs6, hen⟩ := hf1 rfl
        repeat (first | refine qqn rfl ?_ | ((first | (refine WK.rgn ?_ ?_; kernel_rfl) | refine AtCall.now ?_); simp (config := {maxSteps:=999999}) only [SS, qx0, forall_const, vun, Int.reduceEq, Int.reduceNeg, Nat.reduceGT, Nat.reduceLT, Nat.reduceLeDiff, Nat.reduceEqDiff, ↓reduceIte, reduceCtorEq, Int.reduceToNat, Int.reduceLE, Int.reduceLT, Nat.reduceAdd, Nat.reduceMul, f7, ff_3]) | refine qqj rfl ?_ | refine qqk rfl ?_)
        refine AtCall.byX (fin_cw K cwz (by omega) hzz) ?_
        rintro v n15 H15 kx15 ⟨zk15, cw15, hy15, hn15⟩
        obtain ⟨r, rfl, wr⟩ := hy15 (by omega)
        obtain ⟨hfl, hfy⟩ := finR_ok K.ok hcost _ u hsome rfl (by omega)
        generalize finR g (cF co) (shortR g (cF co) u) u = m at *
        generalize hs0 : shortR g (cF co) u = s0 at *
        have hw15 := cw15.1
        have hn15' := kx15.le
        obtain ⟨xe, ke, de, oe, hpe1, hpe2, hpe3, hpe4⟩ := hpe
        have hpe5 := zk15.2 xe _ _ _ (.inr ⟨ke, hpe1⟩) hpe2
        have hpe6 : RI H15 pe en := ⟨xe, ke, de, oe, hpe1, hpe5, hpe3, hpe4⟩
        obtain ⟨qm, rfl, hqm⟩ := wr.rs
        subst hen
        have kA := Kp.new n15 H15 (.cells [] 3 true)
        have bA := hset_at H15 n15 (.cells [] 3 true)
        generalize hA : hset H15 n15 (.cells [] 3 true) = HA at *
        have kA1 : Kp n15 H15 (n15 + 1) (hset HA n15 .dead) := kA.set (x := n15) .dead (by omega) (by omega)
        generalize hA1 : hset HA n15 .dead = HA1 at *
        have kB := Kp.new (n15 + 1) HA1 (.cells ([]) 3 true)
        have bB := hset_at HA1 (n15 + 1) (.cells ([]) 3 true)
        have kB0 := kA1.trans kB
        obtain ⟨rd2, src2, hrd2⟩ := wr.src2 hw15 kB0.keep
        generalize hB2 : hset HA1 (n15 + 1) (.cells ([]) 3 true) = HB at *
        have kB1 : Kp n15 H15 (n15 + 1 + 1) (hset HB (n15 + 1) .dead) := kB0.set (x := n15 + 1) .dead (by omega) (by omega)
        generalize hB1 : hset HB (n15 + 1) .dead = HB1 at *
        have kC := Kp.new (n15 + 1 + 1) HB1 (.cells (m.map (Value.int .i64)) 3 true)
        have bC := hset_at HB1 (n15 + 1 + 1) (.cells (m.map (Value.int .i64)) 3 true)
        have kC0 := kB1.trans kC
        generalize hC : hset HB1 (n15 + 1 + 1) (.cells (m.map (Value.int .i64)) 3 true) = HC at *
        unfold tsrc at src2
        simp only [tsrc2, Nat.mul_one] at src2
        have v2 : rd2.contains (n15 + 1) = false := by
          rw [Bool.eq_false_iff]; intro h
          have := hrd2 (n15 + 1) (by simpa using h)
          omega
        have v3 : 0 ≤ bigN := by unfold bigN; omega
        have v4 : 0 + m.length ≤ bigN := by unfold bigN; omega
        have v7 : m.length ≤ bigN := by unfold bigN; omega
        have e4 : (((s0 : Nat) : Int) = ((m.length : Nat) : Int)) = True := eq_true (by omega)
        have hw15C := kC0.wf hw15
        have hlen : (u ++ m).length = m.length := by have h1 : (u ++ m).length = u.length + m.length := List.length_append; omega
        simp (config := {maxSteps:=999999}) only [SS, qx0, forall_const, vun, Int.reduceEq, Int.reduceNeg, Nat.reduceGT, Nat.reduceLT, Nat.reduceLeDiff, Nat.reduceEqDiff, ↓reduceIte, reduceCtorEq, Int.reduceToNat, Int.reduceLE, Int.reduceLT, Nat.reduceAdd, Nat.reduceMul, ff_3]
        apply WK.skipSeq
        apply WK.seq
        (refine WK.rgn ?_ ?_; kernel_rfl; simp (config := {maxSteps:=999999}) only [SS, qx0, forall_const, vun, Int.reduceEq, Int.reduceNeg, Nat.reduceGT, Nat.reduceLT, Nat.reduceLeDiff, Nat.reduceEqDiff, ↓reduceIte, reduceCtorEq, Int.reduceToNat, Int.reduceLE, Int.reduceLT, Nat.reduceAdd, Nat.reduceMul, f1, f7, f8, hA, bA, v3, hA1, hB2, bB, src2, v2, v4, v7, hB1, hC, e4, List.length_nil, aop_slnil und_26 inf_int, h00, Nat.zero_le, List.contains_nil, hlen, List.drop_zero, List.nil_append, List.append_nil, List.take_nil, List.drop_nil, Nat.zero_add, Nat.add_zero, List.length_nil, List.length_map, Nat.le_refl, ff_3])
        have umap : (m.map (Value.int .i64) : List Value) = (u ++ m).map (Value.int .i64) := by rw [List.map_append]; rw [List.length_eq_zero_iff.1 (show u.length = 0 by omega)]; rfl
        rw [umap] at bC
        have hpeC : RI HC pe (u ++ m) := ⟨xe, ke, de, oe, hpe1, (kC0.keep xe (Classical.byContradiction fun hc => by rw [hw15 xe (by omega)] at hpe5; cases hpe5)).trans hpe5, hpe3, hpe4⟩
        have hp := same_gives (n := n15 + 1 + 1 + 1) (H := HC) (pa := some ⟨n15 + 1 + 1, 0, none⟩) (a := u ++ m) (fun _ => ⟨_, 0, _, _, _, rfl, bC, fun i y e => by rw [Nat.zero_add, List.getElem?_map, e]; rfl⟩) hpeC.rs.ra (by unfold maxL; omega) (by unfold maxL; omega)
        rw [hlen] at hp
        refine AtCall.by hp ?_
        rintro v n16 H16 k16 ⟨rfl, rfl, rfl⟩
        rw [same_refl]
        have cw15' := cw15.mono (Z' := fun z => z < n3) fun q hq => .inl hq
        have cw16 := cw15'.kp kC0
        simp (config := {maxSteps:=999999}) only [SS, qx0, forall_const, vun, Int.reduceEq, Int.reduceNeg, Nat.reduceGT, Nat.reduceLT, Nat.reduceLeDiff, Nat.reduceEqDiff, ↓reduceIte, reduceCtorEq, Int.reduceToNat, Int.reduceLE, Int.reduceLT, Nat.reduceAdd, Nat.reduceMul, f7, ff_3]
        refine AtCall.by (short_cw K cw16 (by omega)) ?_
        rintro v n17 H17 k17 rfl
        rw [hs0]
        simp (config := {maxSteps:=999999}) only [SS, qx0, forall_const, vun, Int.reduceEq, Int.reduceNeg, Nat.reduceGT, Nat.reduceLT, Nat.reduceLeDiff, Nat.reduceEqDiff, ↓reduceIte, reduceCtorEq, Int.reduceToNat, Int.reduceLE, Int.reduceLT, Nat.reduceAdd, Nat.reduceMul, e4, ff_3]
        repeat (first | refine qqn rfl ?_ | ((first | (refine WK.rgn ?_ ?_; kernel_rfl) | refine AtCall.now ?_); simp (config := {maxSteps:=999999}) only [SS, qx0, forall_const, vun, Int.reduceEq, Int.reduceNeg, Nat.reduceGT, Nat.reduceLT, Nat.reduceLeDiff, Nat.reduceEqDiff, ↓reduceIte, reduceCtorEq, Int.reduceToNat, Int.reduceLE, Int.reduceLT, Nat.reduceAdd, Nat.reduceMul, e4, ff_3]) | refine qqj rfl ?_ | refine qqk rfl ?_)
        exact WK.skipNil ⟨rfl, (kx15.mono fun z _ h => h).trans (kC0.kx.trans k17.kx), (zk15.sub fun q hq => .inl hq).trans ((ZK.kp kC0 hw15).trans (ZK.kp k17 hw15C)), cw16.kp k17, (by first | rfl | exact f1), (by first | rfl | exact f5), (by first | rfl | exact f7), (by first | rfl | exact f8)⟩
    rintro ⟨f', n15, H15⟩ ⟨kx15, zk15, cw15, g1, g5, g7, g8⟩
    simp only at kx15 zk15 cw15 g1 g5 g7 g8
    rw [f1] at g1
    rw [f5] at g5
    rw [f7] at g7
    rw [f8] at g8
    have hn15 := kx15.le
    have hw15 := cw15.1
    have keep15 : ∀ x, x < n → H15 x = H x := fun x hx => (kx15.keep x (by omega) (by omega)).trans ((k514.keep x (by omega)).trans ((keep5 x (by omega)).trans (kk3.keep x hx)))
    have zW15 := zk15.2 zW _ _ _ (show zW < n3 by omega) ((k514.keep zW (by omega)).trans hzW5)
    have lt15 : LT H15 cW ws := ltW.zk hw3 ((ZK.kp k4 hw3).trans (zk5.trans ((ZK.kp k514 hw5).trans zk15)))
    apply WK.skipSeq
    apply WK.seq
    repeat (first | refine qqn rfl ?_)
    (refine WK.rgn ?_ ?_; kernel_rfl; simp (config := {maxSteps:=999999}) only [SS, qx0, forall_const, vun, Int.reduceEq, Int.reduceNeg, Nat.reduceGT, Nat.reduceLT, Nat.reduceLeDiff, Nat.reduceEqDiff, ↓reduceIte, reduceCtorEq, Int.reduceToNat, Int.reduceLE, Int.reduceLT, Nat.reduceAdd, Nat.reduceMul, g7, ff_3])
    refine AtCall.by (next_cw K cw15 (by omega)) ?_
    rintro v n16 H16 k16 wo16
    obtain ⟨qn, rfl, hqn⟩ := wo16.rs
    have hw16 := k16.wf hw15
    have hn16 := k16.le
    have zW16 := (k16.keep zW (by omega)).trans zW15
    have lt16 := lt15.kp hw15 k16
    have keep16 : ∀ x, x < n → H16 x = H x := fun x hx => (k16.keep x (by omega)).trans (keep15 x hx)
    have ha16 : RA (Value.int .i64) H16 none [] := (ha.mono hw ⟨by omega, keep16, fun _ => hw16⟩).ra
    simp (config := {maxSteps:=999999}) only [SS, qx0, forall_const, vun, Int.reduceEq, Int.reduceNeg, Nat.reduceGT, Nat.reduceLT, Nat.reduceLeDiff, Nat.reduceEqDiff, ↓reduceIte, reduceCtorEq, Int.reduceToNat, Int.reduceLE, Int.reduceLT, Nat.reduceAdd, Nat.reduceMul, ff_3]
    repeat (first | refine qqn rfl ?_ | ((first | (refine WK.rgn ?_ ?_; kernel_rfl) | refine AtCall.now ?_); simp (config := {maxSteps:=999999}) only [SS, qx0, forall_const, vun, Int.reduceEq, Int.reduceNeg, Nat.reduceGT, Nat.reduceLT, Nat.reduceLeDiff, Nat.reduceEqDiff, ↓reduceIte, reduceCtorEq, Int.reduceToNat, Int.reduceLE, Int.reduceLT, Nat.reduceAdd, Nat.reduceMul, g1, g5, g7, g8, ff_3]) | refine qqj rfl ?_ | refine qqk rfl ?_)
    refine WK.loop (fun k s => ∃ j : Nat, s.n = n16 ∧ s.H = H16 ∧ s.f 1 = f 1 ∧ s.f 8 = f 8 ∧ s.f 14 = .slice qn (nextR g u).length (nextR g u).length ∧ s.f 132 = .slice (some ⟨zW, 0, none⟩) ws.length ws.length ∧ s.f 133 = .int .i64 (ws.length : Nat) ∧ s.f 134 = .int .i64 (j : Nat) ∧ j ≤ ws.length ∧ k = ws.length - j) ws.length ?_ ?_
    · exact ⟨0, rfl, rfl, g1.trans f1.symm, g8.trans f8.symm, rfl, rfl, rfl, rfl, Nat.zero_le _, rfl⟩
    rintro k ⟨f2', n17, H17⟩ ⟨j, rfl, rfl, q1, q8, q14, q132, q133, q134, hjl, rfl⟩ ih
    simp only at q1 q8 q14 q132 q133 q134 ih hw16 zW16 lt16 ha16 hqn k16 keep16 hn16
    rw [f1] at q1
    rw [f8] at q8
    by_cases hlt : j < ws.length
    · obtain ⟨px, c1, c2⟩ := lt16.2 j _ (List.getElem?_eq_getElem hlt)
      have hjw : IntKind.wrap .i64 ((j : Int) + 1) = ((j + 1 : Nat) : Int) := by rw [wrap_in (by omega) (by omega)]; rfl
      obtain ⟨hyx, hxl⟩ := (hws _).1 (List.getElem_mem hlt)
      generalize ws[j] = x at *
      obtain ⟨zx, kx, dx, ox, rfl, hzx, hxd, hxe⟩ := id c2
      have hru17 : RA (Value.int .i64) H17 none u := by rw [← hu]; exact RA.takeN ha16 nn
      have hbg := begins_gives (n := n17) c2 hru17 (by omega) (by omega)
      rw [hul, hn0] at hbg
      repeat (first | refine qqn rfl ?_)
      (refine WK.rgn ?_ ?_; kernel_rfl; simp (config := {maxSteps:=999999}) only [SS, qx0, forall_const, vun, Int.reduceEq, Int.reduceNeg, Nat.reduceGT, Nat.reduceLT, Nat.reduceLeDiff, Nat.reduceEqDiff, ↓reduceIte, reduceCtorEq, Int.reduceToNat, Int.reduceLE, Int.reduceLT, Nat.reduceAdd, Nat.reduceMul, q133, q134, ff_3])
      repeat (first | refine qqn rfl ?_)
      refine WK.condT (by simp only [ev_tmp, ev_const, fset_apply, Nat.reduceEqDiff, ↓reduceIte, decide_true, hlt]) ?_
      repeat (first | refine qqn rfl ?_)
      (refine WK.rgn ?_ ?_; kernel_rfl; simp (config := {maxSteps:=999999}) only [SS, qx0, forall_const, vun, Int.reduceEq, Int.reduceNeg, Nat.reduceGT, Nat.reduceLT, Nat.reduceLeDiff, Nat.reduceEqDiff, ↓reduceIte, reduceCtorEq, Int.reduceToNat, Int.reduceLE, Int.reduceLT, Nat.reduceAdd, Nat.reduceMul, q132, q134, hlt, zW16, c1, Nat.zero_add, ff_3])
      apply WK.skipSeq
      apply WK.seq
      refine WK.cut (fun s => s.n = n17 ∧ s.H = H17 ∧ s.f 1 = f 1 ∧ s.f 8 = f 8 ∧ s.f 14 = .slice qn (nextR g u).length (nextR g u).length ∧ s.f 16 = .slice (some ⟨zx, kx, none⟩) x.length x.length ∧ s.f 132 = .slice (some ⟨zW, 0, none⟩) ws.length ws.length ∧ s.f 133 = .int .i64 (ws.length : Nat) ∧ s.f 134 = .int .i64 (j : Nat)) ?_ ?_
      · have h000 : ((0 : Int) < 0) = False := by simp
        repeat (first | refine qqn rfl ?_ | ((first | (refine WK.rgn ?_ ?_; kernel_rfl) | refine AtCall.now ?_); simp (config := {maxSteps:=999999}) only [SS, qx0, forall_const, vun, Int.reduceEq, Int.reduceNeg, Nat.reduceGT, Nat.reduceLT, Nat.reduceLeDiff, Nat.reduceEqDiff, ↓reduceIte, reduceCtorEq, Int.reduceToNat, Int.reduceLE, Int.reduceLT, Nat.reduceAdd, Nat.reduceMul, q1, q8, h000, List.length_nil, ff_3]) | refine qqj rfl ?_ | refine qqk rfl ?_)
        exact WK.skipNil ⟨rfl, rfl, rfl, (by first | rfl | exact q1.trans f1.symm | exact q1), (by first | rfl | exact q8.trans f8.symm | exact q8), q14, rfl, q132, q133, q134⟩
      clear q1 q8 q14 q132 q133 q134
      rintro ⟨f3', n18, H18⟩ ⟨rfl, rfl, q1, q8, q14, q16, q132, q133, q134⟩
      simp only at q1 q8 q14 q16 q132 q133 q134 ih hw16 zW16 lt16 ha16 hqn k16 keep16 hn16 hzx hbg
      rw [f1] at q1
      rw [f8] at q8
      apply WK.skipSeq
      repeat (first | refine qqn rfl ?_)
      (refine WK.rgn ?_ ?_; kernel_rfl; simp (config := {maxSteps:=999999}) only [SS, qx0, forall_const, vun, Int.reduceEq, Int.reduceNeg, Nat.reduceGT, Nat.reduceLT, Nat.reduceLeDiff, Nat.reduceEqDiff, ↓reduceIte, reduceCtorEq, Int.reduceToNat, Int.reduceLE, Int.reduceLT, Nat.reduceAdd, Nat.reduceMul, q1, q8, q16, List.length_nil, aop_slnil und_26 inf_int, h00, ff_3])
      refine AtCall.by hbg ?_
      rintro v n19 H19 k19 ⟨rfl, rfl, rfl⟩
      by_cases hbx : u.length ≤ x.length ∧ x.take u.length = u
      · rw [decide_eq_true (show 0 ≤ x.length ∧ x.take 0 = u from by simpa only [hul, hn0] using hbx)]
        by_cases hgx : nn < x.length
        · have hxn := List.getElem?_eq_getElem hgx
          have hde := hxe nn _ hxn
          have hxt : x.take (nn + 1) = u ++ [x[nn]] := by
            rw [List.take_succ_eq_append_getElem hgx, show x.take nn = u from by have := hbx.2; rwa [hul] at this]
          have hsn := run_some ok (u ++ [x[nn]]) (x.drop (nn + 1)) (by rw [← hxt, List.take_append_drop]; exact hyx)
          have hmem := (nextR_iff hsome).2 hsn
          have hc1 := cnt_nodup (t := x[nn]) hnd
          rw [if_pos hmem] at hc1
          have hct := count17_gives (n := n19) (t := x[nn]) hqn.ra (by omega)
          rw [hc1] at hct
          generalize x[nn] = t at *
          have hgi : (nn : Int) < (x.length : Int) := by omega
          rw [hn0] at hgi hgx hde
          rw [Nat.add_zero] at hde
          have hgx2 : (0 : Int) < (x.length : Int) := by omega
          simp (config := {maxSteps:=999999}) only [SS, qx0, forall_const, vun, Int.reduceEq, Int.reduceNeg, Nat.reduceGT, Nat.reduceLT, Nat.reduceLeDiff, Nat.reduceEqDiff, ↓reduceIte, reduceCtorEq, Int.reduceToNat, Int.reduceLE, Int.reduceLT, Nat.reduceAdd, Nat.reduceMul, q8, q14, q16, hgx, hgi, hgx2, hzx, hde, Nat.add_zero, ff_3]
          refine AtCall.by hct ?_
          rintro v n20 H20 k20 ⟨rfl, rfl, rfl⟩
          have e1n : (((1 : Nat) : Int) = 1) = True := by simp
          simp (config := {maxSteps:=999999}) only [SS, qx0, forall_const, vun, Int.reduceEq, Int.reduceNeg, Nat.reduceGT, Nat.reduceLT, Nat.reduceLeDiff, Nat.reduceEqDiff, ↓reduceIte, reduceCtorEq, Int.reduceToNat, Int.reduceLE, Int.reduceLT, Nat.reduceAdd, Nat.reduceMul, e1n, ff_3]
          repeat (first | refine qqn rfl ?_ | ((first | (refine WK.rgn ?_ ?_; kernel_rfl) | refine AtCall.now ?_); simp (config := {maxSteps:=999999}) only [SS, qx0, forall_const, vun, Int.reduceEq, Int.reduceNeg, Nat.reduceGT, Nat.reduceLT, Nat.reduceLeDiff, Nat.reduceEqDiff, ↓reduceIte, reduceCtorEq, Int.reduceToNat, Int.reduceLE, Int.reduceLT, Nat.reduceAdd, Nat.reduceMul, q132, q133, q134, hjw, ff_3]) | refine qqj rfl ?_ | refine qqk rfl ?_)
          refine ih (ws.length - (j + 1)) (by omega) _ ?_
          exact ⟨j + 1, rfl, rfl, q1.trans f1.symm, q8.trans f8.symm, q14, q132, q133, rfl, hlt, rfl⟩
        · have hxl0 := hxl
          rw [hn0] at hgx
          have hgi : ((0 : Int) < (x.length : Int)) = False := eq_false (by omega)
          simp (config := {maxSteps:=999999}) only [SS, qx0, forall_const, vun, Int.reduceEq, Int.reduceNeg, Nat.reduceGT, Nat.reduceLT, Nat.reduceLeDiff, Nat.reduceEqDiff, ↓reduceIte, reduceCtorEq, Int.reduceToNat, Int.reduceLE, Int.reduceLT, Nat.reduceAdd, Nat.reduceMul, q8, q16, hgx, hgi, ff_3]
          repeat (first | refine qqn rfl ?_ | ((first | (refine WK.rgn ?_ ?_; kernel_rfl) | refine AtCall.now ?_); simp (config := {maxSteps:=999999}) only [SS, qx0, forall_const, vun, Int.reduceEq, Int.reduceNeg, Nat.reduceGT, Nat.reduceLT, Nat.reduceLeDiff, Nat.reduceEqDiff, ↓reduceIte, reduceCtorEq, Int.reduceToNat, Int.reduceLE, Int.reduceLT, Nat.reduceAdd, Nat.reduceMul, q132, q133, q134, hjw, ff_3]) | refine qqj rfl ?_ | refine qqk rfl ?_)
          refine ih (ws.length - (j + 1)) (by omega) _ ?_
          exact ⟨j + 1, rfl, rfl, q1.trans f1.symm, q8.trans f8.symm, q14, q132, q133, rfl, hlt, rfl⟩
      · rw [decide_eq_false (show ¬ (0 ≤ x.length ∧ x.take 0 = u) from by simpa only [hul, hn0] using hbx)]
        simp (config := {maxSteps:=999999}) only [SS, qx0, forall_const, vun, Int.reduceEq, Int.reduceNeg, Nat.reduceGT, Nat.reduceLT, Nat.reduceLeDiff, Nat.reduceEqDiff, ↓reduceIte, reduceCtorEq, Int.reduceToNat, Int.reduceLE, Int.reduceLT, Nat.reduceAdd, Nat.reduceMul, ff_3]
        repeat (first | refine qqn rfl ?_ | ((first | (refine WK.rgn ?_ ?_; kernel_rfl) | refine AtCall.now ?_); simp (config := {maxSteps:=999999}) only [SS, qx0, forall_const, vun, Int.reduceEq, Int.reduceNeg, Nat.reduceGT, Nat.reduceLT, Nat.reduceLeDiff, Nat.reduceEqDiff, ↓reduceIte, reduceCtorEq, Int.reduceToNat, Int.reduceLE, Int.reduceLT, Nat.reduceAdd, Nat.reduceMul, q132, q133, q134, hjw, ff_3]) | refine qqj rfl ?_ | refine qqk rfl ?_)
        refine ih (ws.length - (j + 1)) (by omega) _ ?_
        exact ⟨j + 1, rfl, rfl, q1.trans f1.symm, q8.trans f8.symm, q14, q132, q133, rfl, hlt, rfl⟩
    · repeat (first | refine qqn rfl ?_ | ((first | (refine WK.rgn ?_ ?_; kernel_rfl) | refine AtCall.now ?_); simp (config := {maxSteps:=999999}) only [SS, qx0, forall_const, vun, Int.reduceEq, Int.reduceNeg, Nat.reduceGT, Nat.reduceLT, Nat.reduceLeDiff, Nat.reduceEqDiff, ↓reduceIte, reduceCtorEq, Int.reduceToNat, Int.reduceLE, Int.reduceLT, Nat.reduceAdd, Nat.reduceMul, q132, q133, q134, hlt, ff_3]) | refine qqj rfl ?_ | refine qqk rfl ?_)
      (first | refine WK.retNil ⟨Or.inr rfl, _, rfl, ?_, ?_⟩ | refine WK.skipNil ⟨Or.inl rfl, _, rfl, ?_, ?_⟩)
      · exact keep16
      · simp only [packed, fset_apply, Nat.reduceEqDiff, ↓reduceIte, List.getD_cons_zero, List.getD_cons_succ, ff_3]
  ·
    have hw00 : ow = false ∧ zw < n := by
      rcases ha with ⟨e, _⟩ | ⟨x, k, cs, ty, own, e, e2, _⟩
      · cases e
      · cases e
        have h1 := hao _ _ _ rfl _ _ _ e2
        have hxn : zw < n := Classical.byContradiction fun hc => by rw [hw zw (by omega)] at e2; cases e2
        have h2 := ((keep5 zw (by omega)).trans (kk3.keep zw hxn)).trans e2
        rw [hzw] at h2
        cases h2
        exact ⟨h1, hxn⟩
    obtain ⟨hw0, hzwn⟩ := hw00
    subst hw0
    have hzn : zw < n5 := Classical.byContradiction fun hc => by rw [hw5 zw (by omega)] at hzw; cases hzw
    have e8 : (((nn : Nat) : Int) = ((nn : Nat) : Int)) = True := eq_true rfl
    apply WK.skipSeq
    apply WK.seq
    apply WK.seq
    (refine WK.rgn ?_ ?_; kernel_rfl; simp (config := {maxSteps:=999999}) only [SS, qx0, forall_const, vun, Int.reduceEq, Int.reduceNeg, Nat.reduceGT, Nat.reduceLT, Nat.reduceLeDiff, Nat.reduceEqDiff, ↓reduceIte, reduceCtorEq, Int.reduceToNat, Int.reduceLE, Int.reduceLT, Nat.reduceAdd, Nat.reduceMul, f1, f2, f5, f7, f8, ff_3])
    refine AtCall.by (len_cw cw5) ?_
    rintro v n6 H6 k6 rfl
    rw [hul]
    have cw6 := cw5.kp k6
    have hn6 := k6.le
    simp (config := {maxSteps:=999999}) only [SS, qx0, forall_const, vun, Int.reduceEq, Int.reduceNeg, Nat.reduceGT, Nat.reduceLT, Nat.reduceLeDiff, Nat.reduceEqDiff, ↓reduceIte, reduceCtorEq, Int.reduceToNat, Int.reduceLE, Int.reduceLT, Nat.reduceAdd, Nat.reduceMul, f7, f8, e8, ff_3]
    refine AtCall.by (word_cw cw6 (by omega)) ?_
    rintro v n7 H7 k7 wo7
    have k57 := k6.trans k7
    have cw7 := cw6.kp k7
    have hw7 := cw7.1
    have hn7 := k7.le
    obtain ⟨q7, rfl, hq7⟩ := wo7.rs
    have hzw7 := (k57.keep zw hzn).trans hzw
    simp (config := {maxSteps:=999999}) only [SS, qx0, forall_const, vun, Int.reduceEq, Int.reduceNeg, Nat.reduceGT, Nat.reduceLT, Nat.reduceLeDiff, Nat.reduceEqDiff, ↓reduceIte, reduceCtorEq, Int.reduceToNat, Int.reduceLE, Int.reduceLT, Nat.reduceAdd, Nat.reduceMul, f1, f8, hzw7, hnw, false_implies, Bool.false_eq_true, ff_3]
    have hsm := same_gives (n := n7) hq7.ra (hru.mono hw5 k57) (by unfold maxL; omega) (by unfold maxL; omega)
    rw [hul] at hsm
    rw [hul]
    refine AtCall.by hsm ?_
    rintro v n8 H8 k8 ⟨rfl, rfl, rfl⟩
    rw [same_refl]
    have hb7 := (k57.keep n (by omega)).trans hb5
    simp (config := {maxSteps:=999999}) only [SS, qx0, forall_const, vun, Int.reduceEq, Int.reduceNeg, Nat.reduceGT, Nat.reduceLT, Nat.reduceLeDiff, Nat.reduceEqDiff, ↓reduceIte, reduceCtorEq, Int.reduceToNat, Int.reduceLE, Int.reduceLT, Nat.reduceAdd, Nat.reduceMul, f2, f1, hb7, gc_len, gc_all, ff_3]
    refine AtCall.by (prefix_gives hw7 (hg5.mono hw5 k57) wg ok hf (ha5.mono hw5 k57).ra (by omega) hi) ?_
    rintro v n9 H9 k9 rfl
    rw [hpeq]
    skip
    have k59 := k57.trans k9
    have hn9 := k9.le
    have hb9 := (k59.keep n (by omega)).trans hb5
    have cw9 := cw7.kp k9
    have hw9 := cw9.1
    simp (config := {maxSteps:=999999}) only [SS, qx0, forall_const, vun, Int.reduceEq, Int.reduceNeg, Nat.reduceGT, Nat.reduceLT, Nat.reduceLeDiff, Nat.reduceEqDiff, ↓reduceIte, reduceCtorEq, Int.reduceToNat, Int.reduceLE, Int.reduceLT, Nat.reduceAdd, Nat.reduceMul, f1, f2, f8, e8, hb9, gc_len, gc_all, ff_3]
    refine AtCall.by (accepts_gives hw9 (hg5.mono hw5 k59) wg ok hf (ha5.mono hw5 k59).ra (by omega) hi) ?_
    rintro v n10 H10 k10 rfl
    rw [hacc1]
    have k510 := k59.trans k10
    have hn10 := k10.le
    have cw10 := cw9.kp k10
    have hw10 := cw10.1
    have zW10 := (k510.keep zW (by omega)).trans hzW5
    have lt10 := lt5.kp hw5 k510
    simp (config := {maxSteps:=999999}) only [SS, qx0, forall_const, vun, Int.reduceEq, Int.reduceNeg, Nat.reduceGT, Nat.reduceLT, Nat.reduceLeDiff, Nat.reduceEqDiff, ↓reduceIte, reduceCtorEq, Int.reduceToNat, Int.reduceLE, Int.reduceLT, Nat.reduceAdd, Nat.reduceMul, f1, f5, ff_3]
    refine AtCall.by (has_gives zW10 lt10.la (by omega) (ha5.mono hw5 k510).ra (by omega) hll) ?_
    rintro v n11 H11 k11 ⟨rfl, rfl, rfl⟩
    simp (config := {maxSteps:=999999}) only [SS, qx0, forall_const, vun, Int.reduceEq, Int.reduceNeg, Nat.reduceGT, Nat.reduceLT, Nat.reduceLeDiff, Nat.reduceEqDiff, ↓reduceIte, reduceCtorEq, Int.reduceToNat, Int.reduceLE, Int.reduceLT, Nat.reduceAdd, Nat.reduceMul, f7, beq_self_eq_true, ff_3]
    refine AtCall.by (acc_cw K cw10 (by omega)) ?_
    rintro v n12 H12 k12 rfl
    rw [hacc2]
    have k512 := k510.trans k12
    have hn12 := k12.le
    have cw12 := cw10.kp k12
    have hw12 := cw12.1
    have zW12 := (k512.keep zW (by omega)).trans hzW5
    have lt12 := lt5.kp hw5 k512
    have hzw12 := (k512.keep zw hzn).trans hzw
    simp (config := {maxSteps:=999999}) only [SS, qx0, forall_const, vun, Int.reduceEq, Int.reduceNeg, Nat.reduceGT, Nat.reduceLT, Nat.reduceLeDiff, Nat.reduceEqDiff, ↓reduceIte, reduceCtorEq, Int.reduceToNat, Int.reduceLE, Int.reduceLT, Nat.reduceAdd, Nat.reduceMul, f1, f5, f8, hzw12, hnw, false_implies, Bool.false_eq_true, ff_3]
    have hsm2 := has_gives (n := n12) zW12 lt12.la (by omega) (hru.mono hw5 k512) (by omega) hll
    rw [hul] at hsm2
    refine AtCall.by hsm2 ?_
    rintro v n13 H13 k13 ⟨rfl, rfl, rfl⟩
    simp (config := {maxSteps:=999999}) only [SS, qx0, forall_const, vun, Int.reduceEq, Int.reduceNeg, Nat.reduceGT, Nat.reduceLT, Nat.reduceLeDiff, Nat.reduceEqDiff, ↓reduceIte, reduceCtorEq, Int.reduceToNat, Int.reduceLE, Int.reduceLT, Nat.reduceAdd, Nat.reduceMul, beq_self_eq_true, ff_3]
    repeat (first | refine qqn rfl ?_ | ((first | (refine WK.rgn ?_ ?_; kernel_rfl) | refine AtCall.now ?_); simp (config := {maxSteps:=999999}) only [SS, qx0, forall_const, vun, Int.reduceEq, Int.reduceNeg, Nat.reduceGT, Nat.reduceLT, Nat.reduceLeDiff, Nat.reduceEqDiff, ↓reduceIte, reduceCtorEq, Int.reduceToNat, Int.reduceLE, Int.reduceLT, Nat.reduceAdd, Nat.reduceMul, f1, f2, f5, f7, f8, hzw12, hnw, false_implies, Bool.false_eq_true, ff_3]) | refine qqj rfl ?_ | refine qqk rfl ?_)
    have hsm3 := fin17_gives (n := n13) hw12 zW12 lt12 (by omega) (hru.mono hw5 k512) (by omega) hll
    rw [hul] at hsm3
    refine AtCall.by hsm3 ?_
    rintro v n14 H14 k14 ⟨pe, rfl, hpe, hpl⟩
    have k514 := k512.trans k14
    have hn14 := k14.le
    have cw14 := cw12.kp k14
    have hw14 := cw14.1
    have hvp : ∀ q k, pe = some ⟨q, k, none⟩ → q < n3 ∨ n13 ≤ q := by
      rintro q k rfl
      rcases hpl with ⟨i, e1, e2⟩ | e
      · obtain ⟨p', c1, x, kk, ds, own, c2, c3, _⟩ := ltW.2 i _ e1
        rw [e2] at c1
        cases c1
        cases c2
        exact .inl (Classical.byContradiction fun hc => by rw [hw3 q (by omega)] at c3; cases c3)
      · cases e; exact .inr (Nat.le_refl _)
    have cwz : CW (fun q => q < n3 ∨ ∃ k, pe = some ⟨q, k, none⟩) n14 H14 S N o pt1 pv1 pr1 pg1 pe1 pc1 g co u := cw12.kpz k14 fun q hq => by
      rcases hq with hq | ⟨k, hq⟩
      · exact .inl hq
      · exact hvp q k hq
    have hzz : ∀ q, (q < n3 ∨ ∃ k, pe = some ⟨q, k, none⟩) → q < n14 := by
      rintro q (hq | ⟨k, rfl⟩)
      · omega
      · obtain ⟨x, kk, ds, own, c2, c3, _⟩ := hpe
        cases c2
        exact Classical.byContradiction fun hc => by rw [hw14 q (by omega)] at c3; cases c3
    clear hpl
    generalize hfn : finS ws u = fn at *
    obtain ⟨en, is⟩ := fn
    simp only at hf1 hf2 hpe ⊢
    simp (config := {maxSteps:=999999}) only [SS, qx0, forall_const, vun, Int.reduceEq, Int.reduceNeg, Nat.reduceGT, Nat.reduceLT, Nat.reduceLeDiff, Nat.reduceEqDiff, ↓reduceIte, reduceCtorEq, Int.reduceToNat, Int.reduceLE, Int.reduceLT, Nat.reduceAdd, Nat.reduceMul, ff_3]
    apply WK.skipSeq
    apply WK.seq
    refine WK.cut (fun s => Kx (fun z => z = o ∨ N ≤ z) n14 H14 s.n s.H ∧ ZK (fun z => z < n3) H14 s.H ∧ CW (fun z => z < n3) s.n s.H S N o pt1 pv1 pr1 pg1 pe1 pc1 g co u ∧ s.f 1 = f 1 ∧ s.f 5 = f 5 ∧ s.f 7 = f 7 ∧ s.f 8 = f 8) ?_ ?_
    · cases is with
      | false =>
        have h6 := hf2 rfl
        have hsf : shortR g (cF co) u ≤ farN := shortR_far
        repeat (first | refine qqn rfl ?_ | ((first | (refine WK.rgn ?_ ?_; kernel_rfl) | refine AtCall.now ?_); simp (config := {maxSteps:=999999}) only [SS, qx0, forall_const, vun, Int.reduceEq, Int.reduceNeg, Nat.reduceGT, Nat.reduceLT, Nat.reduceLeDiff, Nat.reduceEqDiff, ↓reduceIte, reduceCtorEq, Int.reduceToNat, Int.reduceLE, Int.reduceLT, Nat.reduceAdd, Nat.reduceMul, f7, ff_3]) | refine qqj rfl ?_ | refine qqk rfl ?_)
        refine AtCall.by (short_cw K cw14 (by omega)) ?_
        rintro v n15 H15 k15 rfl
        generalize shortR g (cF co) u = s0 at *
        skip
        have hwr : IntKind.wrap .i64 ((s0 : Int) + ((nn : Nat) : Int)) = ((s0 + nn : Nat) : Int) := by rw [wrap_in (by omega) (by omega)]; omega
        have e6 : (((s0 + nn : Nat) : Int) ≤ 6) = False := eq_false (by omega)
        simp (config := {maxSteps:=999999}) only [SS, qx0, forall_const, vun, Int.reduceEq, Int.reduceNeg, Nat.reduceGT, Nat.reduceLT, Nat.reduceLeDiff, Nat.reduceEqDiff, ↓reduceIte, reduceCtorEq, Int.reduceToNat, Int.reduceLE, Int.reduceLT, Nat.reduceAdd, Nat.reduceMul, f8, ff_3]
        repeat (first | refine qqn rfl ?_ | ((first | (refine WK.rgn ?_ ?_; kernel_rfl) | refine AtCall.now ?_); simp (config := {maxSteps:=999999}) only [SS, qx0, forall_const, vun, Int.reduceEq, Int.reduceNeg, Nat.reduceGT, Nat.reduceLT, Nat.reduceLeDiff, Nat.reduceEqDiff, ↓reduceIte, reduceCtorEq, Int.reduceToNat, Int.reduceLE, Int.reduceLT, Nat.reduceAdd, Nat.reduceMul, f8, hwr, e6, ff_3]) | refine qqj rfl ?_ | refine qqk rfl ?_)
        exact WK.skipNil ⟨rfl, k15.kx, ZK.kp k15 hw14, cw14.kp k15, (by first | rfl | exact f1), (by first | rfl | exact f5), (by first | rfl | exact f7), (by first | rfl | exact f8)⟩
      | true =>
        obtain ⟨hs6, hen⟩ := hf1 rfl
        repeat (first | refine qqn rfl ?_ | ((first | (refine WK.rgn ?_ ?_; kernel_rfl) | refine AtCall.now ?_); simp (config := {maxSteps:=999999}) only [SS, qx0, forall_const, vun, Int.reduceEq, Int.reduceNeg, Nat.reduceGT, Nat.reduceLT, Nat.reduceLeDiff, Nat.reduceEqDiff, ↓reduceIte, reduceCtorEq, Int.reduceToNat, Int.reduceLE, Int.reduceLT, Nat.reduceAdd, Nat.reduceMul, f7, ff_3]) | refine qqj rfl ?_ | refine qqk rfl ?_)
        refine AtCall.byX (fin_cw K cwz (by omega) hzz) ?_
        rintro v n15 H15 kx15 ⟨zk15, cw15, hy15, hn15⟩
        obtain ⟨r, rfl, wr⟩ := hy15 (by omega)
        obtain ⟨hfl, hfy⟩ := finR_ok K.ok hcost _ u hsome rfl (by omega)
        generalize finR g (cF co) (shortR g (cF co) u) u = m at *
        generalize hs0 : shortR g (cF co) u = s0 at *
        have hw15 := cw15.1
        have hn15' := kx15.le
        obtain ⟨xe, ke, de, oe, hpe1, hpe2, hpe3, hpe4⟩ := hpe
        have hpe5 := zk15.2 xe _ _ _ (.inr ⟨ke, hpe1⟩) hpe2
        have hpe6 : RI H15 pe en := ⟨xe, ke, de, oe, hpe1, hpe5, hpe3, hpe4⟩
        obtain ⟨qm, rfl, hqm⟩ := wr.rs
        subst hen
        have kA := Kp.new n15 H15 (.cells [] 3 true)
        have bA := hset_at H15 n15 (.cells [] 3 true)
        generalize hA : hset H15 n15 (.cells [] 3 true) = HA at *
        have kA1 : Kp n15 H15 (n15 + 1) (hset HA n15 .dead) := kA.set (x := n15) .dead (by omega) (by omega)
        have hzn3 : zw < n3 := by omega
        have hzw14 := (k514.keep zw hzn).trans hzw
        have hzw15 := zk15.2 zw _ _ _ (.inl hzn3) hzw14
        have hzwA := (kA.keep zw (by omega)).trans hzw15
        have srcw := take_map hlw hew hnw
        rw [hu] at srcw
        have hzlen : kw + nn ≤ csw.length := by omega
        have v0 : [zw].contains n15 = false := by simp; omega
        have v5 : (u.map (Value.int .i64)).take nn = u.map (Value.int .i64) := List.take_of_length_le (by simp; omega)
        generalize hA1 : hset HA n15 .dead = HA1 at *
        have kB := Kp.new (n15 + 1) HA1 (.cells (u.map (Value.int .i64)) 3 true)
        have bB := hset_at HA1 (n15 + 1) (.cells (u.map (Value.int .i64)) 3 true)
        have kB0 := kA1.trans kB
        obtain ⟨rd2, src2, hrd2⟩ := wr.src2 hw15 kB0.keep
        generalize hB2 : hset HA1 (n15 + 1) (.cells (u.map (Value.int .i64)) 3 true) = HB at *
        have kB1 : Kp n15 H15 (n15 + 1 + 1) (hset HB (n15 + 1) .dead) := kB0.set (x := n15 + 1) .dead (by omega) (by omega)
        generalize hB1 : hset HB (n15 + 1) .dead = HB1 at *
        have kC := Kp.new (n15 + 1 + 1) HB1 (.cells (u.map (Value.int .i64) ++ m.map (Value.int .i64)) 3 true)
        have bC := hset_at HB1 (n15 + 1 + 1) (.cells (u.map (Value.int .i64) ++ m.map (Value.int .i64)) 3 true)
        have kC0 := kB1.trans kC
        generalize hC : hset HB1 (n15 + 1 + 1) (.cells (u.map (Value.int .i64) ++ m.map (Value.int .i64)) 3 true) = HC at *
        unfold tsrc at src2
        simp only [tsrc2, Nat.mul_one] at src2
        have v2 : rd2.contains (n15 + 1) = false := by
          rw [Bool.eq_false_iff]; intro h
          have := hrd2 (n15 + 1) (by simpa using h)
          omega
        have v3 : nn ≤ bigN := by unfold bigN; omega
        have v4 : nn + m.length ≤ bigN := by unfold bigN; omega
        have v7 : m.length ≤ bigN := by unfold bigN; omega
        have e4 : (((s0 : Nat) : Int) = ((m.length : Nat) : Int)) = True := eq_true (by omega)
        have hw15C := kC0.wf hw15
        have hlen : (u ++ m).length = nn + m.length := by have h1 : (u ++ m).length = u.length + m.length := List.length_append; omega
        simp (config := {maxSteps:=999999}) only [SS, qx0, forall_const, vun, Int.reduceEq, Int.reduceNeg, Nat.reduceGT, Nat.reduceLT, Nat.reduceLeDiff, Nat.reduceEqDiff, ↓reduceIte, reduceCtorEq, Int.reduceToNat, Int.reduceLE, Int.reduceLT, Nat.reduceAdd, Nat.reduceMul, ff_3]
        apply WK.skipSeq
        apply WK.seq
        (refine WK.rgn ?_ ?_; kernel_rfl; simp (config := {maxSteps:=999999}) only [SS, qx0, forall_const, vun, Int.reduceEq, Int.reduceNeg, Nat.reduceGT, Nat.reduceLT, Nat.reduceLeDiff, Nat.reduceEqDiff, ↓reduceIte, reduceCtorEq, Int.reduceToNat, Int.reduceLE, Int.reduceLT, Nat.reduceAdd, Nat.reduceMul, f1, f7, f8, hA, bA, v3, hA1, hB2, bB, src2, v2, v4, v7, hB1, hC, e4, hzwA, hnw, false_implies, Bool.false_eq_true, srcw, hzlen, v0, v5, hul, hlen, List.drop_zero, List.nil_append, List.append_nil, List.take_nil, List.drop_nil, Nat.zero_add, Nat.add_zero, List.length_nil, List.length_map, Nat.le_refl, ff_3])
        have umap : (u.map (Value.int .i64) ++ m.map (Value.int .i64) : List Value) = (u ++ m).map (Value.int .i64) := by rw [List.map_append]
        rw [umap] at bC
        have hpeC : RI HC pe (u ++ m) := ⟨xe, ke, de, oe, hpe1, (kC0.keep xe (Classical.byContradiction fun hc => by rw [hw15 xe (by omega)] at hpe5; cases hpe5)).trans hpe5, hpe3, hpe4⟩
        have hp := same_gives (n := n15 + 1 + 1 + 1) (H := HC) (pa := some ⟨n15 + 1 + 1, 0, none⟩) (a := u ++ m) (fun _ => ⟨_, 0, _, _, _, rfl, bC, fun i y e => by rw [Nat.zero_add, List.getElem?_map, e]; rfl⟩) hpeC.rs.ra (by unfold maxL; omega) (by unfold maxL; omega)
        rw [hlen] at hp
        refine AtCall.by hp ?_
        rintro v n16 H16 k16 ⟨rfl, rfl, rfl⟩
        rw [same_refl]
        have cw15' := cw15.mono (Z' := fun z => z < n3) fun q hq => .inl hq
        have cw16 := cw15'.kp kC0
        simp (config := {maxSteps:=999999}) only [SS, qx0, forall_const, vun, Int.reduceEq, Int.reduceNeg, Nat.reduceGT, Nat.reduceLT, Nat.reduceLeDiff, Nat.reduceEqDiff, ↓reduceIte, reduceCtorEq, Int.reduceToNat, Int.reduceLE, Int.reduceLT, Nat.reduceAdd, Nat.reduceMul, f7, ff_3]
        refine AtCall.by (short_cw K cw16 (by omega)) ?_
        rintro v n17 H17 k17 rfl
        rw [hs0]
        simp (config := {maxSteps:=999999}) only [SS, qx0, forall_const, vun, Int.reduceEq, Int.reduceNeg, Nat.reduceGT, Nat.reduceLT, Nat.reduceLeDiff, Nat.reduceEqDiff, ↓reduceIte, reduceCtorEq, Int.reduceToNat, Int.reduceLE, Int.reduceLT, Nat.reduceAdd, Nat.reduceMul, e4, ff_3]
        repeat (first | refine qqn rfl ?_ | ((first | (refine WK.rgn ?_ ?_; kernel_rfl) | refine AtCall.now ?_); simp (config := {maxSteps:=999999}) only [SS, qx0, forall_const, vun, Int.reduceEq, Int.reduceNeg, Nat.reduceGT, Nat.reduceLT, Nat.reduceLeDiff, Nat.reduceEqDiff, ↓reduceIte, reduceCtorEq, Int.reduceToNat, Int.reduceLE, Int.reduceLT, Nat.reduceAdd, Nat.reduceMul, e4, ff_3]) | refine qqj rfl ?_ | refine qqk rfl ?_)
        exact WK.skipNil ⟨rfl, (kx15.mono fun z _ h => h).trans (kC0.kx.trans k17.kx), (zk15.sub fun q hq => .inl hq).trans ((ZK.kp kC0 hw15).trans (ZK.kp k17 hw15C)), cw16.kp k17, (by first | rfl | exact f1), (by first | rfl | exact f5), (by first | rfl | exact f7), (by first | rfl | exact f8)⟩
    rintro ⟨f', n15, H15⟩ ⟨kx15, zk15, cw15, g1, g5, g7, g8⟩
    simp only at kx15 zk15 cw15 g1 g5 g7 g8
    rw [f1] at g1
    rw [f5] at g5
    rw [f7] at g7
    rw [f8] at g8
    have hn15 := kx15.le
    have hw15 := cw15.1
    have keep15 : ∀ x, x < n → H15 x = H x := fun x hx => (kx15.keep x (by omega) (by omega)).trans ((k514.keep x (by omega)).trans ((keep5 x (by omega)).trans (kk3.keep x hx)))
    have zW15 := zk15.2 zW _ _ _ (show zW < n3 by omega) ((k514.keep zW (by omega)).trans hzW5)
    have lt15 : LT H15 cW ws := ltW.zk hw3 ((ZK.kp k4 hw3).trans (zk5.trans ((ZK.kp k514 hw5).trans zk15)))
    apply WK.skipSeq
    apply WK.seq
    repeat (first | refine qqn rfl ?_)
    (refine WK.rgn ?_ ?_; kernel_rfl; simp (config := {maxSteps:=999999}) only [SS, qx0, forall_const, vun, Int.reduceEq, Int.reduceNeg, Nat.reduceGT, Nat.reduceLT, Nat.reduceLeDiff, Nat.reduceEqDiff, ↓reduceIte, reduceCtorEq, Int.reduceToNat, Int.reduceLE, Int.reduceLT, Nat.reduceAdd, Nat.reduceMul, g7, ff_3])
    refine AtCall.by (next_cw K cw15 (by omega)) ?_
    rintro v n16 H16 k16 wo16
    obtain ⟨qn, rfl, hqn⟩ := wo16.rs
    have hw16 := k16.wf hw15
    have hn16 := k16.le
    have zW16 := (k16.keep zW (by omega)).trans zW15
    have lt16 := lt15.kp hw15 k16
    have keep16 : ∀ x, x < n → H16 x = H x := fun x hx => (k16.keep x (by omega)).trans (keep15 x hx)
    have ha16 : RA (Value.int .i64) H16 (some ⟨zw, kw, none⟩) w := (ha.mono hw ⟨by omega, keep16, fun _ => hw16⟩).ra
    simp (config := {maxSteps:=999999}) only [SS, qx0, forall_const, vun, Int.reduceEq, Int.reduceNeg, Nat.reduceGT, Nat.reduceLT, Nat.reduceLeDiff, Nat.reduceEqDiff, ↓reduceIte, reduceCtorEq, Int.reduceToNat, Int.reduceLE, Int.reduceLT, Nat.reduceAdd, Nat.reduceMul, ff_3]
    repeat (first | refine qqn rfl ?_ | ((first | (refine WK.rgn ?_ ?_; kernel_rfl) | refine AtCall.now ?_); simp (config := {maxSteps:=999999}) only [SS, qx0, forall_const, vun, Int.reduceEq, Int.reduceNeg, Nat.reduceGT, Nat.reduceLT, Nat.reduceLeDiff, Nat.reduceEqDiff, ↓reduceIte, reduceCtorEq, Int.reduceToNat, Int.reduceLE, Int.reduceLT, Nat.reduceAdd, Nat.reduceMul, g1, g5, g7, g8, ff_3]) | refine qqj rfl ?_ | refine qqk rfl ?_)
    refine WK.loop (fun k s => ∃ j : Nat, s.n = n16 ∧ s.H = H16 ∧ s.f 1 = f 1 ∧ s.f 8 = f 8 ∧ s.f 14 = .slice qn (nextR g u).length (nextR g u).length ∧ s.f 132 = .slice (some ⟨zW, 0, none⟩) ws.length ws.length ∧ s.f 133 = .int .i64 (ws.length : Nat) ∧ s.f 134 = .int .i64 (j : Nat) ∧ j ≤ ws.length ∧ k = ws.length - j) ws.length ?_ ?_
    · exact ⟨0, rfl, rfl, g1.trans f1.symm, g8.trans f8.symm, rfl, rfl, rfl, rfl, Nat.zero_le _, rfl⟩
    rintro k ⟨f2', n17, H17⟩ ⟨j, rfl, rfl, q1, q8, q14, q132, q133, q134, hjl, rfl⟩ ih
    simp only at q1 q8 q14 q132 q133 q134 ih hw16 zW16 lt16 ha16 hqn k16 keep16 hn16
    rw [f1] at q1
    rw [f8] at q8
    by_cases hlt : j < ws.length
    · obtain ⟨px, c1, c2⟩ := lt16.2 j _ (List.getElem?_eq_getElem hlt)
      have hjw : IntKind.wrap .i64 ((j : Int) + 1) = ((j + 1 : Nat) : Int) := by rw [wrap_in (by omega) (by omega)]; rfl
      obtain ⟨hyx, hxl⟩ := (hws _).1 (List.getElem_mem hlt)
      generalize ws[j] = x at *
      obtain ⟨zx, kx, dx, ox, rfl, hzx, hxd, hxe⟩ := id c2
      have hru17 : RA (Value.int .i64) H17 (some ⟨zw, kw, none⟩) u := by rw [← hu]; exact RA.takeN ha16 nn
      have hbg := begins_gives (n := n17) c2 hru17 (by omega) (by omega)
      rw [hul] at hbg
      have hzw17 := (keep16 zw hzwn).trans ((keep5' zw hzwn).symm.trans hzw)
      repeat (first | refine qqn rfl ?_)
      (refine WK.rgn ?_ ?_; kernel_rfl; simp (config := {maxSteps:=999999}) only [SS, qx0, forall_const, vun, Int.reduceEq, Int.reduceNeg, Nat.reduceGT, Nat.reduceLT, Nat.reduceLeDiff, Nat.reduceEqDiff, ↓reduceIte, reduceCtorEq, Int.reduceToNat, Int.reduceLE, Int.reduceLT, Nat.reduceAdd, Nat.reduceMul, q133, q134, ff_3])
      repeat (first | refine qqn rfl ?_)
      refine WK.condT (by simp only [ev_tmp, ev_const, fset_apply, Nat.reduceEqDiff, ↓reduceIte, decide_true, hlt]) ?_
      repeat (first | refine qqn rfl ?_)
      (refine WK.rgn ?_ ?_; kernel_rfl; simp (config := {maxSteps:=999999}) only [SS, qx0, forall_const, vun, Int.reduceEq, Int.reduceNeg, Nat.reduceGT, Nat.reduceLT, Nat.reduceLeDiff, Nat.reduceEqDiff, ↓reduceIte, reduceCtorEq, Int.reduceToNat, Int.reduceLE, Int.reduceLT, Nat.reduceAdd, Nat.reduceMul, q132, q134, hlt, zW16, c1, Nat.zero_add, ff_3])
      apply WK.skipSeq
      apply WK.seq
      refine WK.cut (fun s => s.n = n17 ∧ s.H = H17 ∧ s.f 1 = f 1 ∧ s.f 8 = f 8 ∧ s.f 14 = .slice qn (nextR g u).length (nextR g u).length ∧ s.f 16 = .slice (some ⟨zx, kx, none⟩) x.length x.length ∧ s.f 132 = .slice (some ⟨zW, 0, none⟩) ws.length ws.length ∧ s.f 133 = .int .i64 (ws.length : Nat) ∧ s.f 134 = .int .i64 (j : Nat)) ?_ ?_
      · by_cases hnl : nn < w.length
        · have hnw1 : nn + 1 ≤ w.length := hnl
          have hwi : IntKind.wrap .i64 ((nn : Int) + 1) = ((nn + 1 : Nat) : Int) := by rw [wrap_in (by omega) (by omega)]; rfl
          have hb2 := begins_gives (n := n17) c2 (RA.takeN ha16 (nn + 1)) (by omega) (by rw [List.length_take]; omega)
          have hl1 : (w.take (nn + 1)).length = nn + 1 := by rw [List.length_take]; omega
          have hno1 : decide ((w.take (nn + 1)).length ≤ x.length ∧ x.take (w.take (nn + 1)).length = w.take (nn + 1)) = false := by
            rw [decide_eq_false_iff_not]
            rintro ⟨_, h2⟩
            have h3 := run_some ok (w.take (nn + 1)) (x.drop (w.take (nn + 1)).length) (by
              have h4 := List.take_append_drop (w.take (nn + 1)).length x
              rw [h2] at h4
              rw [h4]; exact hyx)
            rw [hmax hnl] at h3
            cases h3
          rw [hno1, hl1] at hb2
          repeat (first | refine qqn rfl ?_ | ((first | (refine WK.rgn ?_ ?_; kernel_rfl) | refine AtCall.now ?_); simp (config := {maxSteps:=999999}) only [SS, qx0, forall_const, vun, Int.reduceEq, Int.reduceNeg, Nat.reduceGT, Nat.reduceLT, Nat.reduceLeDiff, Nat.reduceEqDiff, ↓reduceIte, reduceCtorEq, Int.reduceToNat, Int.reduceLE, Int.reduceLT, Nat.reduceAdd, Nat.reduceMul, q1, q8, hnl, hwi, hnw1, hzw17, false_implies, Bool.false_eq_true, ff_3]) | refine qqj rfl ?_ | refine qqk rfl ?_)
          refine AtCall.by hb2 ?_
          rintro v n18 H18 k18 ⟨rfl, rfl, rfl⟩
          simp (config := {maxSteps:=999999}) only [SS, qx0, forall_const, vun, Int.reduceEq, Int.reduceNeg, Nat.reduceGT, Nat.reduceLT, Nat.reduceLeDiff, Nat.reduceEqDiff, ↓reduceIte, reduceCtorEq, Int.reduceToNat, Int.reduceLE, Int.reduceLT, Nat.reduceAdd, Nat.reduceMul, ff_3]
          repeat (first | refine qqn rfl ?_ | ((first | (refine WK.rgn ?_ ?_; kernel_rfl) | refine AtCall.now ?_); simp (config := {maxSteps:=999999}) only [SS, qx0, forall_const, vun, Int.reduceEq, Int.reduceNeg, Nat.reduceGT, Nat.reduceLT, Nat.reduceLeDiff, Nat.reduceEqDiff, ↓reduceIte, reduceCtorEq, Int.reduceToNat, Int.reduceLE, Int.reduceLT, Nat.reduceAdd, Nat.reduceMul, ff_3]) | refine qqj rfl ?_ | refine qqk rfl ?_)
          exact WK.skipNil ⟨rfl, rfl, rfl, (by first | rfl | exact q1.trans f1.symm | exact q1), (by first | rfl | exact q8.trans f8.symm | exact q8), q14, rfl, q132, q133, q134⟩
        · repeat (first | refine qqn rfl ?_ | ((first | (refine WK.rgn ?_ ?_; kernel_rfl) | refine AtCall.now ?_); simp (config := {maxSteps:=999999}) only [SS, qx0, forall_const, vun, Int.reduceEq, Int.reduceNeg, Nat.reduceGT, Nat.reduceLT, Nat.reduceLeDiff, Nat.reduceEqDiff, ↓reduceIte, reduceCtorEq, Int.reduceToNat, Int.reduceLE, Int.reduceLT, Nat.reduceAdd, Nat.reduceMul, q1, q8, hnl, ff_3]) | refine qqj rfl ?_ | refine qqk rfl ?_)
          exact WK.skipNil ⟨rfl, rfl, rfl, (by first | rfl | exact q1.trans f1.symm | exact q1), (by first | rfl | exact q8.trans f8.symm | exact q8), q14, rfl, q132, q133, q134⟩
      clear q1 q8 q14 q132 q133 q134
      rintro ⟨f3', n18, H18⟩ ⟨rfl, rfl, q1, q8, q14, q16, q132, q133, q134⟩
      simp only at q1 q8 q14 q16 q132 q133 q134 ih hw16 zW16 lt16 ha16 hqn k16 keep16 hn16 hzx hbg hzw17
      rw [f1] at q1
      rw [f8] at q8
      apply WK.skipSeq
      repeat (first | refine qqn rfl ?_)
      (refine WK.rgn ?_ ?_; kernel_rfl; simp (config := {maxSteps:=999999}) only [SS, qx0, forall_const, vun, Int.reduceEq, Int.reduceNeg, Nat.reduceGT, Nat.reduceLT, Nat.reduceLeDiff, Nat.reduceEqDiff, ↓reduceIte, reduceCtorEq, Int.reduceToNat, Int.reduceLE, Int.reduceLT, Nat.reduceAdd, Nat.reduceMul, q1, q8, q16, hzw17, hnw, false_implies, Bool.false_eq_true, ff_3])
      refine AtCall.by hbg ?_
      rintro v n19 H19 k19 ⟨rfl, rfl, rfl⟩
      by_cases hbx : u.length ≤ x.length ∧ x.take u.length = u
      · rw [decide_eq_true (show nn ≤ x.length ∧ x.take nn = u from by simpa only [hul] using hbx)]
        by_cases hgx : nn < x.length
        · have hxn := List.getElem?_eq_getElem hgx
          have hde := hxe nn _ hxn
          have hxt : x.take (nn + 1) = u ++ [x[nn]] := by
            rw [List.take_succ_eq_append_getElem hgx, show x.take nn = u from by have := hbx.2; rwa [hul] at this]
          have hsn := run_some ok (u ++ [x[nn]]) (x.drop (nn + 1)) (by rw [← hxt, List.take_append_drop]; exact hyx)
          have hmem := (nextR_iff hsome).2 hsn
          have hc1 := cnt_nodup (t := x[nn]) hnd
          rw [if_pos hmem] at hc1
          have hct := count17_gives (n := n19) (t := x[nn]) hqn.ra (by omega)
          rw [hc1] at hct
          generalize x[nn] = t at *
          have hgi : (nn : Int) < (x.length : Int) := by omega
          simp (config := {maxSteps:=999999}) only [SS, qx0, forall_const, vun, Int.reduceEq, Int.reduceNeg, Nat.reduceGT, Nat.reduceLT, Nat.reduceLeDiff, Nat.reduceEqDiff, ↓reduceIte, reduceCtorEq, Int.reduceToNat, Int.reduceLE, Int.reduceLT, Nat.reduceAdd, Nat.reduceMul, q8, q14, q16, hgx, hgi, hzx, hde, ff_3]
          refine AtCall.by hct ?_
          rintro v n20 H20 k20 ⟨rfl, rfl, rfl⟩
          have e1n : (((1 : Nat) : Int) = 1) = True := by simp
          simp (config := {maxSteps:=999999}) only [SS, qx0, forall_const, vun, Int.reduceEq, Int.reduceNeg, Nat.reduceGT, Nat.reduceLT, Nat.reduceLeDiff, Nat.reduceEqDiff, ↓reduceIte, reduceCtorEq, Int.reduceToNat, Int.reduceLE, Int.reduceLT, Nat.reduceAdd, Nat.reduceMul, e1n, ff_3]
          repeat (first | refine qqn rfl ?_ | ((first | (refine WK.rgn ?_ ?_; kernel_rfl) | refine AtCall.now ?_); simp (config := {maxSteps:=999999}) only [SS, qx0, forall_const, vun, Int.reduceEq, Int.reduceNeg, Nat.reduceGT, Nat.reduceLT, Nat.reduceLeDiff, Nat.reduceEqDiff, ↓reduceIte, reduceCtorEq, Int.reduceToNat, Int.reduceLE, Int.reduceLT, Nat.reduceAdd, Nat.reduceMul, q132, q133, q134, hjw, ff_3]) | refine qqj rfl ?_ | refine qqk rfl ?_)
          refine ih (ws.length - (j + 1)) (by omega) _ ?_
          exact ⟨j + 1, rfl, rfl, q1.trans f1.symm, q8.trans f8.symm, q14, q132, q133, rfl, hlt, rfl⟩
        · have hxl0 := hxl
          have hgi : ((nn : Int) < (x.length : Int)) = False := eq_false (by omega)
          simp (config := {maxSteps:=999999}) only [SS, qx0, forall_const, vun, Int.reduceEq, Int.reduceNeg, Nat.reduceGT, Nat.reduceLT, Nat.reduceLeDiff, Nat.reduceEqDiff, ↓reduceIte, reduceCtorEq, Int.reduceToNat, Int.reduceLE, Int.reduceLT, Nat.reduceAdd, Nat.reduceMul, q8, q16, hgx, hgi, ff_3]
          repeat (first | refine qqn rfl ?_ | ((first | (refine WK.rgn ?_ ?_; kernel_rfl) | refine AtCall.now ?_); simp (config := {maxSteps:=999999}) only [SS, qx0, forall_const, vun, Int.reduceEq, Int.reduceNeg, Nat.reduceGT, Nat.reduceLT, Nat.reduceLeDiff, Nat.reduceEqDiff, ↓reduceIte, reduceCtorEq, Int.reduceToNat, Int.reduceLE, Int.reduceLT, Nat.reduceAdd, Nat.reduceMul, q132, q133, q134, hjw, ff_3]) | refine qqj rfl ?_ | refine qqk rfl ?_)
          refine ih (ws.length - (j + 1)) (by omega) _ ?_
          exact ⟨j + 1, rfl, rfl, q1.trans f1.symm, q8.trans f8.symm, q14, q132, q133, rfl, hlt, rfl⟩
      · rw [decide_eq_false (show ¬ (nn ≤ x.length ∧ x.take nn = u) from by simpa only [hul] using hbx)]
        simp (config := {maxSteps:=999999}) only [SS, qx0, forall_const, vun, Int.reduceEq, Int.reduceNeg, Nat.reduceGT, Nat.reduceLT, Nat.reduceLeDiff, Nat.reduceEqDiff, ↓reduceIte, reduceCtorEq, Int.reduceToNat, Int.reduceLE, Int.reduceLT, Nat.reduceAdd, Nat.reduceMul, ff_3]
        repeat (first | refine qqn rfl ?_ | ((first | (refine WK.rgn ?_ ?_; kernel_rfl) | refine AtCall.now ?_); simp (config := {maxSteps:=999999}) only [SS, qx0, forall_const, vun, Int.reduceEq, Int.reduceNeg, Nat.reduceGT, Nat.reduceLT, Nat.reduceLeDiff, Nat.reduceEqDiff, ↓reduceIte, reduceCtorEq, Int.reduceToNat, Int.reduceLE, Int.reduceLT, Nat.reduceAdd, Nat.reduceMul, q132, q133, q134, hjw, ff_3]) | refine qqj rfl ?_ | refine qqk rfl ?_)
        refine ih (ws.length - (j + 1)) (by omega) _ ?_
        exact ⟨j + 1, rfl, rfl, q1.trans f1.symm, q8.trans f8.symm, q14, q132, q133, rfl, hlt, rfl⟩
    · repeat (first | refine qqn rfl ?_ | ((first | (refine WK.rgn ?_ ?_; kernel_rfl) | refine AtCall.now ?_); simp (config := {maxSteps:=999999}) only [SS, qx0, forall_const, vun, Int.reduceEq, Int.reduceNeg, Nat.reduceGT, Nat.reduceLT, Nat.reduceLeDiff, Nat.reduceEqDiff, ↓reduceIte, reduceCtorEq, Int.reduceToNat, Int.reduceLE, Int.reduceLT, Nat.reduceAdd, Nat.reduceMul, q132, q133, q134, hlt, ff_3]) | refine qqj rfl ?_ | refine qqk rfl ?_)
      (first | refine WK.retNil ⟨Or.inr rfl, _, rfl, ?_, ?_⟩ | refine WK.skipNil ⟨Or.inl rfl, _, rfl, ?_, ?_⟩)
      · exact keep16
      · simp only [packed, fset_apply, Nat.reduceEqDiff, ↓reduceIte, List.getD_cons_zero, List.getD_cons_succ, ff_3]
end Go.Proofs.Ytpdlmpbhohinpaa
