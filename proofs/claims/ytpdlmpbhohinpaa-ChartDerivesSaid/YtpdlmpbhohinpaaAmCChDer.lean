/- A part of a proof. Its conditions: none. -/
import Derived.Test.YtpdlmpbhohinpaaAmCChFine
import Derived.Test.YtpdlmpbhohinpaaAmCChPops
import Derived.Test.YtpdlmpbhohinpaaAmCUseYield
import Derived.Test.YtpdlmpbhohinpaaAmC
set_option linter.all false
namespace Go.Proofs.Ytpdlmpbhohinpaa
open Go.AM Go.RowKit
set_option maxRecDepth 100000
def cnt (l : List Int) (t : Int) : Nat := (l.filter fun x => decide (x = t)).length
theorem cnt_nodup {t : Int} : ∀ {l : List Int}, l.Nodup → cnt l t = if t ∈ l then 1 else 0 := by
  intro l
  induction l with
  | nil => intro _; rfl
  | cons a l ih =>
    intro h
    obtain ⟨h1, h2⟩ := List.nodup_cons.1 h
    have := ih h2
    unfold cnt at this ⊢
    rw [List.filter_cons]
    by_cases e : a = t
    · subst e
      rw [if_neg h1] at this
      simp [this]
    · have e' : t ≠ a := fun h => e h.symm
      simp [e, e', this]
theorem count17_gives {p : Option Addr} {l : List Int} {t : Int} {n : Nat} {H : Heap} (h : RA (Value.int .i64) H p l) (hl : l.length ≤ 1000000) : Gives Try.prog 25 [.slice p l.length l.length, .int .i64 t] n H fun v n' H' => v = .int .i64 (cnt l t : Nat) ∧ n' = n ∧ H' = H := by
  refine Gives.of orders ok25 (Nat.le_of_ble_eq_true rfl) ?_
  repeat (first | apply qqa | apply qqb | apply qqc | apply qqd | apply qqe | apply qqf | apply qqg | apply qqh | refine qqi rfl ?_ | ((first | (refine WK.rgn ?_ ?_; kernel_rfl) | refine AtCall.now ?_); simp (config := { maxSteps := 1000000 }) only [SS, qg0, qgb, qgl, qgi, forall_const, tor, tlen2, Int.reduceEq, Int.reduceNeg, Nat.reduceGT, Nat.reduceLT, Nat.reduceLeDiff, Nat.reduceEqDiff, ↓reduceIte, reduceCtorEq, Int.reduceToNat, Int.reduceLE, Int.reduceLT, Nat.reduceAdd, Nat.reduceMul, ff_25]) | refine qqj rfl ?_ | refine qqk rfl ?_)
  refine WK.loop (fun k s => ∃ j : Nat, s.n = n ∧ s.H = H ∧ s.f 1 = .int .i64 t ∧ s.f 5 = .int .i64 (cnt (l.take j) t : Nat) ∧ s.f 8 = .slice p l.length l.length ∧ s.f 9 = .int .i64 (l.length : Nat) ∧ s.f 10 = .int .i64 (j : Nat) ∧ j ≤ l.length ∧ k = l.length - j) l.length ?_ ?_
  · exact ⟨0, rfl, rfl, rfl, rfl, rfl, rfl, rfl, Nat.zero_le _, rfl⟩
  rintro k ⟨f, n1, H1⟩ ⟨j, rfl, rfl, f1, f5, f8, f9, f10, hj, rfl⟩ ih
  simp only at f1 f5 f8 f9 f10 h ih
  by_cases hlt : j < l.length
  · obtain ⟨x, kx, cs, ty, own, rfl, hx, hc⟩ := h (by intro e; subst e; simp at hlt)
    have hcj := hc j _ (List.getElem?_eq_getElem hlt)
    have hwj : IntKind.wrap .i64 ((j : Int) + 1) = ((j + 1 : Nat) : Int) := by rw [wrap_in (by omega) (by omega)]; rfl
    have htj : l.take (j + 1) = l.take j ++ [l[j]] := List.take_succ_eq_append_getElem hlt
    have hcl : cnt (l.take j) t ≤ l.length := by
      unfold cnt
      have := List.length_filter_le (fun x => decide (x = t)) (l.take j)
      rw [List.length_take] at this; omega
    have hcs : cnt (l.take (j + 1)) t = cnt (l.take j) t + if l[j] = t then 1 else 0 := by
      unfold cnt
      rw [htj, List.filter_append, List.length_append]
      by_cases e : l[j] = t <;> simp [e]
    generalize cnt (l.take j) t = c at *
    generalize l[j] = y at *
    have hwc : IntKind.wrap .i64 ((c : Int) + 1) = ((c + 1 : Nat) : Int) := by rw [wrap_in (by omega) (by omega)]; rfl
    by_cases he : y = t
    · rw [if_pos he] at hcs
      repeat (first | apply qqa | apply qqb | apply qqc | apply qqd | apply qqe | apply qqf | apply qqg | apply qqh | refine qqi rfl ?_ | ((first | (refine WK.rgn ?_ ?_; kernel_rfl) | refine AtCall.now ?_); simp (config := { maxSteps := 1000000 }) only [SS, qg0, qgb, qgl, qgi, forall_const, tor, tlen2, Int.reduceEq, Int.reduceNeg, Nat.reduceGT, Nat.reduceLT, Nat.reduceLeDiff, Nat.reduceEqDiff, ↓reduceIte, reduceCtorEq, Int.reduceToNat, Int.reduceLE, Int.reduceLT, Nat.reduceAdd, Nat.reduceMul, f1, f5, f8, f9, f10, hlt, hx, hcj, he, hwc, hwj, ff_25]) | refine qqj rfl ?_ | refine qqk rfl ?_)
      refine ih (l.length - (j + 1)) (by omega) _ ?_
      refine ⟨j + 1, rfl, rfl, f1, ?_, f8, f9, rfl, hlt, rfl⟩
      rw [hcs]; rfl
    · rw [if_neg he] at hcs
      repeat (first | apply qqa | apply qqb | apply qqc | apply qqd | apply qqe | apply qqf | apply qqg | apply qqh | refine qqi rfl ?_ | ((first | (refine WK.rgn ?_ ?_; kernel_rfl) | refine AtCall.now ?_); simp (config := { maxSteps := 1000000 }) only [SS, qg0, qgb, qgl, qgi, forall_const, tor, tlen2, Int.reduceEq, Int.reduceNeg, Nat.reduceGT, Nat.reduceLT, Nat.reduceLeDiff, Nat.reduceEqDiff, ↓reduceIte, reduceCtorEq, Int.reduceToNat, Int.reduceLE, Int.reduceLT, Nat.reduceAdd, Nat.reduceMul, f1, f5, f8, f9, f10, hlt, hx, hcj, he, hwj, ff_25]) | refine qqj rfl ?_ | refine qqk rfl ?_)
      refine ih (l.length - (j + 1)) (by omega) _ ?_
      refine ⟨j + 1, rfl, rfl, f1, ?_, f8, f9, rfl, hlt, rfl⟩
      rw [hcs]; exact f5
  · repeat (first | apply qqa | apply qqb | apply qqc | apply qqd | apply qqe | apply qqf | apply qqg | apply qqh | refine qqi rfl ?_ | ((first | (refine WK.rgn ?_ ?_; kernel_rfl) | refine AtCall.now ?_); simp (config := { maxSteps := 1000000 }) only [SS, qg0, qgb, qgl, qgi, forall_const, tor, tlen2, Int.reduceEq, Int.reduceNeg, Nat.reduceGT, Nat.reduceLT, Nat.reduceLeDiff, Nat.reduceEqDiff, ↓reduceIte, reduceCtorEq, Int.reduceToNat, Int.reduceLE, Int.reduceLT, Nat.reduceAdd, Nat.reduceMul, f1, f5, f8, f9, f10, hlt, ff_25]) | refine qqj rfl ?_ | refine qqk rfl ?_)
    (first | refine WK.retNil ⟨Or.inr rfl, _, rfl, ?_, ?_⟩ | refine WK.skipNil ⟨Or.inl rfl, _, rfl, ?_, ?_⟩)
    · exact fun _ _ => rfl
    · simp only [packed, fset_apply, Nat.reduceEqDiff, ↓reduceIte, List.getD_cons_zero, List.getD_cons_succ, f5, ff_25]
      rw [List.take_of_length_le (by omega)]
      exact ⟨rfl, trivial, trivial⟩
theorem pref_run {g : Gram} {gd em : List Bool} : ∀ (w : List Int) (s : List (List It)), (w.foldlM (pushS g gd em) s).isSome = true → prefS g gd em s w = w.length := by
  intro w
  induction w with
  | nil => intro s _; rfl
  | cons t w ih =>
    intro s h
    rw [List.foldlM_cons] at h
    rw [prefS_cons]
    cases hp : pushS g gd em s t with
    | none => rw [hp] at h; cases h
    | some s' => rw [hp] at h; simp only [List.length_cons]; rw [ih s' h]
theorem acc_run {g : Gram} {gd em : List Bool} : ∀ (w : List Int) (s s' : List (List It)), w.foldlM (pushS g gd em) s = some s' → accW g gd em s w = accB g s' := by
  intro w
  induction w with
  | nil => intro s s' h; cases h; rfl
  | cons t w ih =>
    intro s s' h
    rw [List.foldlM_cons] at h
    rw [accW_cons]
    cases hp : pushS g gd em s t with
    | none => rw [hp] at h; cases h
    | some s2 => rw [hp] at h; exact ih s2 s' h
theorem acc_none {g : Gram} {gd em : List Bool} : ∀ (w : List Int) (s : List (List It)), w.foldlM (pushS g gd em) s = none → accW g gd em s w = false := by
  intro w
  induction w with
  | nil => intro s h; cases h
  | cons t w ih =>
    intro s h
    rw [List.foldlM_cons] at h
    rw [accW_cons]
    cases hp : pushS g gd em s t with
    | none => rfl
    | some s2 => rw [hp] at h; exact ih s2 h
theorem accW_iff {g : Gram} (ok : RightOK g) {w : List Int} : accW g (gdG g) (emG g) (newS g (gdG g) (emG g)) w = true ↔ Yd g [0] w := by
  cases hr : runS g w with
  | none =>
    rw [acc_none w _ hr]
    constructor
    · intro h; cases h
    · intro h
      have := run_some ok w [] (by rw [List.append_nil]; exact h)
      rw [hr] at this; cases this
  | some s =>
    rw [acc_run w _ s hr]
    have := accR_iff ok (u := w) (by rw [hr]; rfl)
    unfold accR at this
    rwa [hr, Option.getD_some] at this
theorem yield_yd {g : Gram} {form rules : List Int} (h : (yieldS g form rules).2 = 0) (hl : rules.length ≤ 4096) : Yd g form (yieldS g form rules).1 := by
  have eL : replayL g form rules = replayS g form rules 0 := by unfold replayL; rw [if_neg (by omega)]
  unfold yieldS at h ⊢
  rw [eL] at h ⊢
  have hry := replay_yd (g := g) rules form
  generalize hR : replayS g form rules 0 = R at *
  obtain ⟨out, q, e⟩ := R
  simp only at h ⊢
  by_cases he : e = 0
  · subst he
    rw [if_pos rfl] at h ⊢
    by_cases hp : 0 ≤ leadP out
    · rw [if_pos hp] at h; cases h
    · rw [if_neg hp]
      have hall : ∀ s ∈ out, s < 0 := by
        unfold leadP at hp
        by_cases hd : out.dropWhile AM.neg = []
        · have e := List.takeWhile_append_dropWhile (p := AM.neg) (l := out)
          rw [hd, List.append_nil] at e
          intro s hs
          rw [← e] at hs
          exact takeWhile_neg hs
        · rw [if_neg hd] at hp; omega
      obtain ⟨e1, _⟩ := tw_all hall
      unfold leadV
      rw [e1]
      exact hry out 0 q hR hall
  · rw [if_neg he] at h; exact absurd h he
theorem yd_small {g : Gram} {l w : List Int} (h : Yd g l w) {k : Int} (hr : ∀ r ∈ g.rules, ∀ s ∈ r.right, -s - 1 < k) : (∀ s ∈ l, -s - 1 < k) → ∀ t ∈ w, t < k := by
  induction h with
  | nil => intro _ t ht; cases ht
  | term h _ ih =>
    intro hl t ht
    rcases List.mem_cons.1 ht with rfl | ht
    · exact hl _ (by simp)
    · exact ih (fun s hs => hl s (by simp [hs])) t ht
  | var h _ _ ih1 ih2 =>
    intro hl t ht
    rcases List.mem_append.1 ht with ht | ht
    · exact ih1 (hr _ (List.getElem_mem h)) t ht
    · exact ih2 (fun s hs => hl s (by simp [hs])) t ht
theorem word_in {g : Gram} (ok : RightOK g) {w : List Int} (h : Yd g [0] w) : ∀ t ∈ w, inI t := by
  intro t ht
  have h1 := h.pos t ht
  have ht' := ok.terms
  have h2 := yd_small h (k := 64) (fun r hr s hs => by
    rcases Int.lt_or_le s 0 with h0 | h0
    · have := ok.inG.rightT r hr s hs h0; omega
    · omega) (fun s hs => by simp at hs; omega) t ht
  unfold inI; omega
set_option maxHeartbeats 16000000 in
theorem derives17_gives {v : Value} {g : Gram} {q : Option Addr} {rules : List Int} {n : Nat} {H : Heap} (hw : WF n H) (hg : RG H v g) (wg : WG g) (hq : RS (Value.int .i64) H q rules) (hro : AllRO H) (hql : rules.length ≤ maxL) :
    Gives Try.prog 7 [v, .slice q rules.length rules.length] n H fun v _ _ => v = .bool true := by
  have hg0 := hg
  obtain ⟨pt, pv, pr, rfl, ht, hv, hr⟩ := hg
  have hro0 := rro_of hr hro
  refine Gives.of orders ok7 (Nat.le_of_ble_eq_true rfl) ?_
  have hk := Kp.new n H (.cells (gcells pt pv pr g) 25 true)
  have hb := hset_at H n (.cells (gcells pt pv pr g) 25 true)
  repeat (first | apply qqa | apply qqb | apply qqc | apply qqd | apply qqe | apply qqf | apply qqg | apply qqh | refine qqi rfl ?_)
  (refine WK.rgn ?_ ?_; kernel_rfl; simp (config := { maxSteps := 1000000 }) only [SS, qg0, qgb, qgl, qgi, qge, forall_const, tor, vun, tlen2, tpick, textr, tbox, one, Go.AM.splice, Int.reduceEq, Int.reduceNeg, Nat.reduceGT, Nat.reduceLT, Nat.reduceLeDiff, Nat.reduceEqDiff, ↓reduceIte, reduceCtorEq, Int.reduceToNat, Int.reduceLE, Int.reduceLT, Nat.reduceAdd, Nat.reduceMul, box_cells, box_one, ff_7])
  generalize hset H n (.cells (gcells pt pv pr g) 25 true) = H1 at *
  repeat (first | apply qqa | apply qqb | apply qqc | apply qqd | apply qqe | apply qqf | apply qqg | apply qqh | refine qqi rfl ?_ | ((first | (refine WK.rgn ?_ ?_; kernel_rfl) | refine AtCall.now ?_); simp (config := { maxSteps := 1000000 }) only [SS, qg0, qgb, qgl, qgi, qge, forall_const, tor, vun, tlen2, tpick, textr, tbox, one, Go.AM.splice, Int.reduceEq, Int.reduceNeg, Nat.reduceGT, Nat.reduceLT, Nat.reduceLeDiff, Nat.reduceEqDiff, ↓reduceIte, reduceCtorEq, Int.reduceToNat, Int.reduceLE, Int.reduceLT, Nat.reduceAdd, Nat.reduceMul, ff_7]) | refine qqj rfl ?_ | refine qqk rfl ?_)
  refine AtCall.by (alive_gives _ _) ?_
  rintro v n' H' hk' ⟨rfl, rfl, rfl⟩
  simp (config := { maxSteps := 1000000 }) only [SS, qg0, qgb, qgl, qgi, qge, forall_const, tor, vun, tlen2, tpick, textr, tbox, one, Go.AM.splice, Int.reduceEq, Int.reduceNeg, Nat.reduceGT, Nat.reduceLT, Nat.reduceLeDiff, Nat.reduceEqDiff, ↓reduceIte, reduceCtorEq, Int.reduceToNat, Int.reduceLE, Int.reduceLT, Nat.reduceAdd, Nat.reduceMul, ff_7]
  repeat (first | apply qqa | apply qqb | apply qqc | apply qqd | apply qqe | apply qqf | apply qqg | apply qqh | refine qqi rfl ?_)
  first | refine qqj rfl ?_ | refine qqk rfl ?_
  repeat (first | apply qqa | apply qqb | apply qqc | apply qqd | apply qqe | apply qqf | apply qqg | apply qqh | refine qqi rfl ?_)
  (refine WK.rgn ?_ ?_; kernel_rfl; simp (config := { maxSteps := 1000000 }) only [SS, qg0, qgb, qgl, qgi, qge, forall_const, tor, vun, tlen2, tpick, textr, tbox, one, Go.AM.splice, Int.reduceEq, Int.reduceNeg, Nat.reduceGT, Nat.reduceLT, Nat.reduceLeDiff, Nat.reduceEqDiff, ↓reduceIte, reduceCtorEq, Int.reduceToNat, Int.reduceLE, Int.reduceLT, Nat.reduceAdd, Nat.reduceMul, hb, gc_len, gc_all, ff_7])
  refine AtCall.by (few17_gives (hk.wf hw) (hg0.mono hw hk) wg) ?_
  rintro v n2 H2 k2 ⟨t, rfl, hok⟩
  have kk2 := hk.trans k2
  have hb2 := (k2.keep n (by omega)).trans hb
  cases t with
  | false =>
    simp (config := { maxSteps := 1000000 }) only [SS, qg0, qgb, qgl, qgi, qge, forall_const, tor, vun, tlen2, tpick, textr, tbox, one, Go.AM.splice, Int.reduceEq, Int.reduceNeg, Nat.reduceGT, Nat.reduceLT, Nat.reduceLeDiff, Nat.reduceEqDiff, ↓reduceIte, reduceCtorEq, Int.reduceToNat, Int.reduceLE, Int.reduceLT, Nat.reduceAdd, Nat.reduceMul, ff_7]
    repeat (first | apply qqa | apply qqb | apply qqc | apply qqd | apply qqe | apply qqf | apply qqg | apply qqh | refine qqi rfl ?_ | ((first | (refine WK.rgn ?_ ?_; kernel_rfl) | refine AtCall.now ?_); simp (config := { maxSteps := 1000000 }) only [SS, qg0, qgb, qgl, qgi, qge, forall_const, tor, vun, tlen2, tpick, textr, tbox, one, Go.AM.splice, Int.reduceEq, Int.reduceNeg, Nat.reduceGT, Nat.reduceLT, Nat.reduceLeDiff, Nat.reduceEqDiff, ↓reduceIte, reduceCtorEq, Int.reduceToNat, Int.reduceLE, Int.reduceLT, Nat.reduceAdd, Nat.reduceMul, ff_7]) | refine qqj rfl ?_ | refine qqk rfl ?_)
    (first | refine WK.retNil ⟨Or.inr rfl, _, rfl, ?_, ?_⟩ | refine WK.skipNil ⟨Or.inl rfl, _, rfl, ?_, ?_⟩)
    · exact kk2.keep
    · simp only [packed, fset_apply, Nat.reduceEqDiff, ↓reduceIte, List.getD_cons_zero, List.getD_cons_succ, ff_7]
  | true =>
  obtain ⟨hf, ok⟩ := hok rfl
  by_cases h60 : (60 : Int) < rules.length
  · simp (config := { maxSteps := 1000000 }) only [SS, qg0, qgb, qgl, qgi, qge, forall_const, tor, vun, tlen2, tpick, textr, tbox, one, Go.AM.splice, Int.reduceEq, Int.reduceNeg, Nat.reduceGT, Nat.reduceLT, Nat.reduceLeDiff, Nat.reduceEqDiff, ↓reduceIte, reduceCtorEq, Int.reduceToNat, Int.reduceLE, Int.reduceLT, Nat.reduceAdd, Nat.reduceMul, h60, ff_7]
    repeat (first | apply qqa | apply qqb | apply qqc | apply qqd | apply qqe | apply qqf | apply qqg | apply qqh | refine qqi rfl ?_ | ((first | (refine WK.rgn ?_ ?_; kernel_rfl) | refine AtCall.now ?_); simp (config := { maxSteps := 1000000 }) only [SS, qg0, qgb, qgl, qgi, qge, forall_const, tor, vun, tlen2, tpick, textr, tbox, one, Go.AM.splice, Int.reduceEq, Int.reduceNeg, Nat.reduceGT, Nat.reduceLT, Nat.reduceLeDiff, Nat.reduceEqDiff, ↓reduceIte, reduceCtorEq, Int.reduceToNat, Int.reduceLE, Int.reduceLT, Nat.reduceAdd, Nat.reduceMul, ff_7]) | refine qqj rfl ?_ | refine qqk rfl ?_)
    (first | refine WK.retNil ⟨Or.inr rfl, _, rfl, ?_, ?_⟩ | refine WK.skipNil ⟨Or.inl rfl, _, rfl, ?_, ?_⟩)
    · exact kk2.keep
    · simp only [packed, fset_apply, Nat.reduceEqDiff, ↓reduceIte, List.getD_cons_zero, List.getD_cons_succ, ff_7]
  have hw2 := kk2.wf hw
  have hnle := hk.le
  have hnle2 := k2.le
  have u1 : vcells (Value.int .i64 0) = [Value.int .i64 0] := rfl
  have u2 : ([Value.int .i64 0] : List Value).length = 1 := rfl
  have u3 : ([Value.int .i64 0] : List Value).all one = true := rfl
  have u4 : Go.AM.splice [Value.int IntKind.i64 (Int.ofNat 0)] 0 [Value.int .i64 0] = [Value.int .i64 0] := rfl
  have k3 := Kp.new n2 H2 (.cells [.int .i64 0] 3 true)
  have b3 := hset_at H2 n2 (.cells [.int .i64 0] 3 true)
  have kk3 := kk2.trans k3
  have hw3 := k3.wf hw2
  generalize hH3 : hset H2 n2 (.cells [.int .i64 0] 3 true) = H3 at *
  simp (config := { maxSteps := 1000000 }) only [SS, qg0, qgb, qgl, qgi, qge, forall_const, tor, vun, tlen2, tpick, textr, tbox, one, Go.AM.splice, Int.reduceEq, Int.reduceNeg, Nat.reduceGT, Nat.reduceLT, Nat.reduceLeDiff, Nat.reduceEqDiff, ↓reduceIte, reduceCtorEq, Int.reduceToNat, Int.reduceLE, Int.reduceLT, Nat.reduceAdd, Nat.reduceMul, h60, ff_7]
  repeat (first | apply qqa | apply qqb | apply qqc | apply qqd | apply qqe | apply qqf | apply qqg | apply qqh | refine qqi rfl ?_ | ((first | (refine WK.rgn ?_ ?_; kernel_rfl) | refine AtCall.now ?_); simp (config := { maxSteps := 1000000 }) only [SS, qg0, qgb, qgl, qgi, qge, forall_const, tor, vun, tlen2, tpick, textr, tbox, one, Go.AM.splice, Int.reduceEq, Int.reduceNeg, Nat.reduceGT, Nat.reduceLT, Nat.reduceLeDiff, Nat.reduceEqDiff, ↓reduceIte, reduceCtorEq, Int.reduceToNat, Int.reduceLE, Int.reduceLT, Nat.reduceAdd, Nat.reduceMul, hb2, gc_len, gc_all, hH3, u1, u2, u3, u4, ff_7]) | refine qqj rfl ?_ | refine qqk rfl ?_)
  refine AtCall.by (yield_gives (form := [0]) hw3 (hg0.mono hw kk3) wg ok (fun _ => ⟨n2, 0, _, _, _, rfl, b3, fun i y e => by
    cases i with
    | zero => simp at e; subst e; rfl
    | succ i => simp at e⟩) (hq.mono hw kk3).ra (by simp; omega) (fun s hs => by simp at hs; omega)) ?_
  rintro v n4 H4 k4 ⟨p', rfl, hp'⟩
  have kk4 := kk3.trans k4
  have hw4 := kk4.wf hw
  have hn3 : n2 + 1 ≤ n4 := k4.le
  have hb4 : H4 n = .cells (gcells pt pv pr g) 25 true := (k4.keep n (by omega)).trans ((k3.keep n (by omega)).trans hb2)
  have hyd := yield_yd (g := g) (form := [0]) (rules := rules)
  generalize yieldS g [0] rules = Y at *
  obtain ⟨w, e⟩ := Y
  simp only at hp' hyd ⊢
  by_cases he : ¬ e = 0
  · have h00 : ((e : Int) = 0) = False := by simp; exact he
    simp (config := { maxSteps := 1000000 }) only [SS, qg0, qgb, qgl, qgi, qge, forall_const, tor, vun, tlen2, tpick, textr, tbox, one, Go.AM.splice, Int.reduceEq, Int.reduceNeg, Nat.reduceGT, Nat.reduceLT, Nat.reduceLeDiff, Nat.reduceEqDiff, ↓reduceIte, reduceCtorEq, Int.reduceToNat, Int.reduceLE, Int.reduceLT, Nat.reduceAdd, Nat.reduceMul, ff_7]
    repeat (first | apply qqa | apply qqb | apply qqc | apply qqd | apply qqe | apply qqf | apply qqg | apply qqh | refine qqi rfl ?_ | ((first | (refine WK.rgn ?_ ?_; kernel_rfl) | refine AtCall.now ?_); simp (config := { maxSteps := 1000000 }) only [SS, qg0, qgb, qgl, qgi, qge, forall_const, tor, vun, tlen2, tpick, textr, tbox, one, Go.AM.splice, Int.reduceEq, Int.reduceNeg, Nat.reduceGT, Nat.reduceLT, Nat.reduceLeDiff, Nat.reduceEqDiff, ↓reduceIte, reduceCtorEq, Int.reduceToNat, Int.reduceLE, Int.reduceLT, Nat.reduceAdd, Nat.reduceMul, h00, ff_7]) | refine qqj rfl ?_ | refine qqk rfl ?_)
    (first | refine WK.retNil ⟨Or.inr rfl, _, rfl, ?_, ?_⟩ | refine WK.skipNil ⟨Or.inl rfl, _, rfl, ?_, ?_⟩)
    · exact kk4.keep
    · simp only [packed, fset_apply, Nat.reduceEqDiff, ↓reduceIte, List.getD_cons_zero, List.getD_cons_succ, ff_7]
  replace he := Classical.not_not.1 he
  subst he
  have h00 : (((0 : Nat) : Int) = 0) = True := by simp
  by_cases h40 : (40 : Int) < w.length
  · simp (config := { maxSteps := 1000000 }) only [SS, qg0, qgb, qgl, qgi, qge, forall_const, tor, vun, tlen2, tpick, textr, tbox, one, Go.AM.splice, Int.reduceEq, Int.reduceNeg, Nat.reduceGT, Nat.reduceLT, Nat.reduceLeDiff, Nat.reduceEqDiff, ↓reduceIte, reduceCtorEq, Int.reduceToNat, Int.reduceLE, Int.reduceLT, Nat.reduceAdd, Nat.reduceMul, ff_7]
    repeat (first | apply qqa | apply qqb | apply qqc | apply qqd | apply qqe | apply qqf | apply qqg | apply qqh | refine qqi rfl ?_ | ((first | (refine WK.rgn ?_ ?_; kernel_rfl) | refine AtCall.now ?_); simp (config := { maxSteps := 1000000 }) only [SS, qg0, qgb, qgl, qgi, qge, forall_const, tor, vun, tlen2, tpick, textr, tbox, one, Go.AM.splice, Int.reduceEq, Int.reduceNeg, Nat.reduceGT, Nat.reduceLT, Nat.reduceLeDiff, Nat.reduceEqDiff, ↓reduceIte, reduceCtorEq, Int.reduceToNat, Int.reduceLE, Int.reduceLT, Nat.reduceAdd, Nat.reduceMul, h00, h40, ff_7]) | refine qqj rfl ?_ | refine qqk rfl ?_)
    (first | refine WK.retNil ⟨Or.inr rfl, _, rfl, ?_, ?_⟩ | refine WK.skipNil ⟨Or.inl rfl, _, rfl, ?_, ?_⟩)
    · exact kk4.keep
    · simp only [packed, fset_apply, Nat.reduceEqDiff, ↓reduceIte, List.getD_cons_zero, List.getD_cons_succ, ff_7]
  have hy := hyd rfl (by omega)
  have hin := word_in ok hy
  have hro4 : RRO H4 pr g.rules := hro0.sub (fun x hx => kk4.keep x (Classical.byContradiction fun hc => hx (hw x (by omega))))
  simp (config := { maxSteps := 1000000 }) only [SS, qg0, qgb, qgl, qgi, qge, forall_const, tor, vun, tlen2, tpick, textr, tbox, one, Go.AM.splice, Int.reduceEq, Int.reduceNeg, Nat.reduceGT, Nat.reduceLT, Nat.reduceLeDiff, Nat.reduceEqDiff, ↓reduceIte, reduceCtorEq, Int.reduceToNat, Int.reduceLE, Int.reduceLT, Nat.reduceAdd, Nat.reduceMul, ff_7]
  repeat (first | apply qqa | apply qqb | apply qqc | apply qqd | apply qqe | apply qqf | apply qqg | apply qqh | refine qqi rfl ?_ | ((first | (refine WK.rgn ?_ ?_; kernel_rfl) | refine AtCall.now ?_); simp (config := { maxSteps := 1000000 }) only [SS, qg0, qgb, qgl, qgi, qge, forall_const, tor, vun, tlen2, tpick, textr, tbox, one, Go.AM.splice, Int.reduceEq, Int.reduceNeg, Nat.reduceGT, Nat.reduceLT, Nat.reduceLeDiff, Nat.reduceEqDiff, ↓reduceIte, reduceCtorEq, Int.reduceToNat, Int.reduceLE, Int.reduceLT, Nat.reduceAdd, Nat.reduceMul, h00, h40, hb4, gc_len, gc_all, ff_7]) | refine qqj rfl ?_ | refine qqk rfl ?_)
  refine AtCall.by (new_cw (H0 := H) hw4 (hg0.mono hw kk4) wg ok hf hro4) ?_
  rintro v n5 H5 k5 ⟨S, N, o, pt1, pv1, pr1, pg1, pe1, pc1, co, rfl, K, hno, cw⟩
  have kk5 := kk4.trans k5
  have hw5 := kk5.wf hw
  have hn4 := k5.le
  have hNo : N > o := K.oN
  obtain ⟨b, hcost⟩ := K.cost
  have hfar : farN = 1073741824 := rfl
  simp (config := { maxSteps := 1000000 }) only [SS, qg0, qgb, qgl, qgi, qge, forall_const, tor, vun, tlen2, tpick, textr, tbox, one, Go.AM.splice, Int.reduceEq, Int.reduceNeg, Nat.reduceGT, Nat.reduceLT, Nat.reduceLeDiff, Nat.reduceEqDiff, ↓reduceIte, reduceCtorEq, Int.reduceToNat, Int.reduceLE, Int.reduceLT, Nat.reduceAdd, Nat.reduceMul, ff_7]
  repeat (first | apply qqa | apply qqb | apply qqc | apply qqd | apply qqe | apply qqf | apply qqg | apply qqh | refine qqi rfl ?_ | ((first | (refine WK.rgn ?_ ?_; kernel_rfl) | refine AtCall.now ?_); simp (config := { maxSteps := 1000000 }) only [SS, qg0, qgb, qgl, qgi, qge, forall_const, tor, vun, tlen2, tpick, textr, tbox, one, Go.AM.splice, Int.reduceEq, Int.reduceNeg, Nat.reduceGT, Nat.reduceLT, Nat.reduceLeDiff, Nat.reduceEqDiff, ↓reduceIte, reduceCtorEq, Int.reduceToNat, Int.reduceLE, Int.reduceLT, Nat.reduceAdd, Nat.reduceMul, ff_7]) | refine qqj rfl ?_ | refine qqk rfl ?_)
  refine WK.loop (fun k s => ∃ i : Nat, Kx (fun z => z = o ∨ N ≤ z) n5 H5 s.n s.H ∧ CW (fun z => z < n4) s.n s.H S N o pt1 pv1 pr1 pg1 pe1 pc1 g co (w.take i) ∧ s.f 2 = .pointer (some ⟨n, 0, none⟩) ∧ s.f 5 = .slice p' w.length w.length ∧ s.f 7 = .pointer (some ⟨o, 0, none⟩) ∧ s.f 37 = .slice p' w.length w.length ∧ s.f 38 = .int .i64 (w.length : Nat) ∧ s.f 39 = .int .i64 (i : Nat) ∧ i ≤ w.length ∧ k = w.length - i) w.length ?_ ?_
  · exact ⟨0, .refl _ _ _, cw, rfl, rfl, rfl, rfl, rfl, rfl, Nat.zero_le _, rfl⟩
  rintro k ⟨f, n6, H6⟩ ⟨i, kx, cw6, f2, f5, f7, f37, f38, f39, hi, rfl⟩ ih
  simp only at f2 f5 f7 f37 f38 f39 kx cw6 ih
  have hn6 := kx.le
  have keep6 : ∀ x, x < n4 → H6 x = H4 x := fun x hx => (kx.keep x (by omega) (by omega)).trans (k5.keep x hx)
  have hp6 : RS (Value.int .i64) H6 p' w := hp'.mono hw4 ⟨by omega, keep6, fun _ => cw6.1⟩
  have hg6 : RG H6 (.agg (gcells pt pv pr g).toArray) g := hg0.mono hw ⟨by omega, fun x hx => (keep6 x (by omega)).trans (kk4.keep x hx), fun _ => cw6.1⟩
  have hb6 := (keep6 n (by omega)).trans hb4
  by_cases hlt : i < w.length
  · obtain ⟨zp, kp, dsp, tp, op, rfl, hzp, e3⟩ := hp6.ra.at hlt
    have hwi : IntKind.wrap .i64 ((i : Int) + 1) = ((i + 1 : Nat) : Int) := by rw [wrap_in (by omega) (by omega)]; rfl
    have hsub : IntKind.wrap .i64 ((w.length : Int) - (i : Int)) = ((w.length - i : Nat) : Int) := by rw [wrap_in (by omega) (by omega)]; omega
    have hti : w.take (i + 1) = w.take i ++ [w[i]] := List.take_succ_eq_append_getElem hlt
    have hyi : Yd g [0] (w.take i ++ w.drop i) := by rw [List.take_append_drop]; exact hy
    have hsh := shortR_le ok hcost hyi (by rw [List.length_drop]; omega)
    rw [List.length_drop] at hsh
    have hrs := run_some ok (w.take (i + 1)) (w.drop (i + 1)) (by rw [List.take_append_drop]; exact hy)
    rw [hti] at hrs
    have hnx := (nextR_iff cw6.some).2 hrs
    obtain ⟨hnd, hnl⟩ := nextR_nodup ok cw6.some
    have hcn := cnt_nodup (t := w[i]) hnd
    rw [if_pos hnx] at hcn
    have htl := K.htl
    have hint := hin _ (List.getElem_mem hlt)
    generalize hti0 : w[i] = t at *
    repeat (first | apply qqa | apply qqb | apply qqc | apply qqd | apply qqe | apply qqf | apply qqg | apply qqh | refine qqi rfl ?_ | ((first | (refine WK.rgn ?_ ?_; kernel_rfl) | refine AtCall.now ?_); simp (config := { maxSteps := 1000000 }) only [SS, qg0, qgb, qgl, qgi, qge, forall_const, tor, vun, tlen2, tpick, textr, tbox, one, Go.AM.splice, Int.reduceEq, Int.reduceNeg, Nat.reduceGT, Nat.reduceLT, Nat.reduceLeDiff, Nat.reduceEqDiff, ↓reduceIte, reduceCtorEq, Int.reduceToNat, Int.reduceLE, Int.reduceLT, Nat.reduceAdd, Nat.reduceMul, f2, f5, f7, f37, f38, f39, hlt, hzp, e3, ff_7]) | refine qqj rfl ?_ | refine qqk rfl ?_)
    refine AtCall.by (short_cw K cw6 (by rw [List.length_take]; omega)) ?_
    rintro v n7 H7 k7 rfl
    have cw7 := cw6.kp k7
    have hgt : ((((w.length - i : Nat) : Int)) < ((shortR g (cF co) (w.take i) : Nat) : Int)) = False := eq_false (by omega)
    have hgt' : (w.length - i < shortR g (cF co) (w.take i)) = False := eq_false (by omega)
    simp (config := { maxSteps := 1000000 }) only [SS, qg0, qgb, qgl, qgi, qge, forall_const, tor, vun, tlen2, tpick, textr, tbox, one, Go.AM.splice, Int.reduceEq, Int.reduceNeg, Nat.reduceGT, Nat.reduceLT, Nat.reduceLeDiff, Nat.reduceEqDiff, ↓reduceIte, reduceCtorEq, Int.reduceToNat, Int.reduceLE, Int.reduceLT, Nat.reduceAdd, Nat.reduceMul, ff_7]
    repeat (first | apply qqa | apply qqb | apply qqc | apply qqd | apply qqe | apply qqf | apply qqg | apply qqh | refine qqi rfl ?_ | ((first | (refine WK.rgn ?_ ?_; kernel_rfl) | refine AtCall.now ?_); simp (config := { maxSteps := 1000000 }) only [SS, qg0, qgb, qgl, qgi, qge, forall_const, tor, vun, tlen2, tpick, textr, tbox, one, Go.AM.splice, Int.reduceEq, Int.reduceNeg, Nat.reduceGT, Nat.reduceLT, Nat.reduceLeDiff, Nat.reduceEqDiff, ↓reduceIte, reduceCtorEq, Int.reduceToNat, Int.reduceLE, Int.reduceLT, Nat.reduceAdd, Nat.reduceMul, f5, f7, hsub, hgt, hgt', ff_7]) | refine qqj rfl ?_ | refine qqk rfl ?_)
    refine AtCall.by (next_cw K cw7 (by rw [List.length_take]; omega)) ?_
    rintro v n8 H8 k8 wo8
    have cw8 := cw7.kp k8
    obtain ⟨q8, rfl, hq8⟩ := wo8.rs
    simp (config := { maxSteps := 1000000 }) only [SS, qg0, qgb, qgl, qgi, qge, forall_const, tor, vun, tlen2, tpick, textr, tbox, one, Go.AM.splice, Int.reduceEq, Int.reduceNeg, Nat.reduceGT, Nat.reduceLT, Nat.reduceLeDiff, Nat.reduceEqDiff, ↓reduceIte, reduceCtorEq, Int.reduceToNat, Int.reduceLE, Int.reduceLT, Nat.reduceAdd, Nat.reduceMul, ff_7]
    refine AtCall.by (count17_gives (t := t) hq8.ra (by omega)) ?_
    rintro v n9 H9 k9 ⟨rfl, rfl, rfl⟩
    rw [hcn]
    have h11 : (((1 : Nat) : Int) = 1) = True := by simp
    have hn78 := k7.le
    have hn89 := k8.le
    simp (config := { maxSteps := 1000000 }) only [SS, qg0, qgb, qgl, qgi, qge, forall_const, tor, vun, tlen2, tpick, textr, tbox, one, Go.AM.splice, Int.reduceEq, Int.reduceNeg, Nat.reduceGT, Nat.reduceLT, Nat.reduceLeDiff, Nat.reduceEqDiff, ↓reduceIte, reduceCtorEq, Int.reduceToNat, Int.reduceLE, Int.reduceLT, Nat.reduceAdd, Nat.reduceMul, f7, h11, ff_7]
    refine AtCall.byX (push_cw (t := t) K cw8 (by rw [List.length_take]; omega) hint (fun z hz => by omega)) ?_
    rintro v n10 H10 kx10 ⟨rfl, zk10, cw10⟩
    rw [hrs, if_pos rfl, ← hti] at cw10
    rw [hrs]
    simp (config := { maxSteps := 1000000 }) only [SS, qg0, qgb, qgl, qgi, qge, forall_const, tor, vun, tlen2, tpick, textr, tbox, one, Go.AM.splice, Int.reduceEq, Int.reduceNeg, Nat.reduceGT, Nat.reduceLT, Nat.reduceLeDiff, Nat.reduceEqDiff, ↓reduceIte, reduceCtorEq, Int.reduceToNat, Int.reduceLE, Int.reduceLT, Nat.reduceAdd, Nat.reduceMul, ff_7]
    repeat (first | apply qqa | apply qqb | apply qqc | apply qqd | apply qqe | apply qqf | apply qqg | apply qqh | refine qqi rfl ?_ | ((first | (refine WK.rgn ?_ ?_; kernel_rfl) | refine AtCall.now ?_); simp (config := { maxSteps := 1000000 }) only [SS, qg0, qgb, qgl, qgi, qge, forall_const, tor, vun, tlen2, tpick, textr, tbox, one, Go.AM.splice, Int.reduceEq, Int.reduceNeg, Nat.reduceGT, Nat.reduceLT, Nat.reduceLeDiff, Nat.reduceEqDiff, ↓reduceIte, reduceCtorEq, Int.reduceToNat, Int.reduceLE, Int.reduceLT, Nat.reduceAdd, Nat.reduceMul, f39, hwi, ff_7]) | refine qqj rfl ?_ | refine qqk rfl ?_)
    refine ih (w.length - (i + 1)) (by omega) _ ?_
    exact ⟨i + 1, ((kx.trans k7.kx).trans k8.kx).trans (kx10.mono fun z _ h => h), cw10, f2, f5, f7, f37, f38, rfl, hlt, rfl⟩
  · have hie : i = w.length := by omega
    rw [hie, List.take_length] at cw6
    have hacc := (accR_iff ok cw6.some).2 hy
    have hsh := shortR_le ok hcost (u := w) (v := []) (by rw [List.append_nil]; exact hy) (by simp; omega)
    have hs0 : shortR g (cF co) w = 0 := by simpa using hsh
    have haw := (accW_iff ok (w := w)).2 hy
    have hpw := pref_run (g := g) (gd := gdG g) (em := emG g) w _ (run_some ok w [] (by rw [List.append_nil]; exact hy))
    repeat (first | apply qqa | apply qqb | apply qqc | apply qqd | apply qqe | apply qqf | apply qqg | apply qqh | refine qqi rfl ?_ | ((first | (refine WK.rgn ?_ ?_; kernel_rfl) | refine AtCall.now ?_); simp (config := { maxSteps := 1000000 }) only [SS, qg0, qgb, qgl, qgi, qge, forall_const, tor, vun, tlen2, tpick, textr, tbox, one, Go.AM.splice, Int.reduceEq, Int.reduceNeg, Nat.reduceGT, Nat.reduceLT, Nat.reduceLeDiff, Nat.reduceEqDiff, ↓reduceIte, reduceCtorEq, Int.reduceToNat, Int.reduceLE, Int.reduceLT, Nat.reduceAdd, Nat.reduceMul, f2, f5, f7, f37, f38, f39, hlt, ff_7]) | refine qqj rfl ?_ | refine qqk rfl ?_)
    refine AtCall.by (acc_cw K cw6 (by omega)) ?_
    rintro v n7 H7 k7 rfl
    have cw7 := cw6.kp k7
    rw [hacc]
    simp (config := { maxSteps := 1000000 }) only [SS, qg0, qgb, qgl, qgi, qge, forall_const, tor, vun, tlen2, tpick, textr, tbox, one, Go.AM.splice, Int.reduceEq, Int.reduceNeg, Nat.reduceGT, Nat.reduceLT, Nat.reduceLeDiff, Nat.reduceEqDiff, ↓reduceIte, reduceCtorEq, Int.reduceToNat, Int.reduceLE, Int.reduceLT, Nat.reduceAdd, Nat.reduceMul, f7, ff_7]
    refine AtCall.by (short_cw K cw7 (by omega)) ?_
    rintro v n8 H8 k8 rfl
    rw [hs0]
    have hw6 := cw6.1
    have kk8 := k7.trans k8
    have hb8 := (kk8.keep n (by omega)).trans hb6
    have hw8 := kk8.wf hw6
    simp (config := { maxSteps := 1000000 }) only [SS, qg0, qgb, qgl, qgi, qge, forall_const, tor, vun, tlen2, tpick, textr, tbox, one, Go.AM.splice, Int.reduceEq, Int.reduceNeg, Nat.reduceGT, Nat.reduceLT, Nat.reduceLeDiff, Nat.reduceEqDiff, ↓reduceIte, reduceCtorEq, Int.reduceToNat, Int.reduceLE, Int.reduceLT, Nat.reduceAdd, Nat.reduceMul, f2, f5, h00, hb8, gc_len, gc_all, ff_7]
    refine AtCall.by (accepts_gives hw8 (hg6.mono hw6 kk8) wg ok hf (hp6.mono hw6 kk8).ra (by omega) hin) ?_
    rintro v n9 H9 k9 rfl
    rw [haw]
    have kk9 := kk8.trans k9
    have hb9 := (kk9.keep n (by omega)).trans hb6
    simp (config := { maxSteps := 1000000 }) only [SS, qg0, qgb, qgl, qgi, qge, forall_const, tor, vun, tlen2, tpick, textr, tbox, one, Go.AM.splice, Int.reduceEq, Int.reduceNeg, Nat.reduceGT, Nat.reduceLT, Nat.reduceLeDiff, Nat.reduceEqDiff, ↓reduceIte, reduceCtorEq, Int.reduceToNat, Int.reduceLE, Int.reduceLT, Nat.reduceAdd, Nat.reduceMul, f2, f5, hb9, gc_len, gc_all, ff_7]
    refine AtCall.by (prefix_gives (kk9.wf hw6) (hg6.mono hw6 kk9) wg ok hf (hp6.mono hw6 kk9).ra (by omega) hin) ?_
    rintro v n10 H10 k10 rfl
    rw [hpw]
    simp (config := { maxSteps := 1000000 }) only [SS, qg0, qgb, qgl, qgi, qge, forall_const, tor, vun, tlen2, tpick, textr, tbox, one, Go.AM.splice, Int.reduceEq, Int.reduceNeg, Nat.reduceGT, Nat.reduceLT, Nat.reduceLeDiff, Nat.reduceEqDiff, ↓reduceIte, reduceCtorEq, Int.reduceToNat, Int.reduceLE, Int.reduceLT, Nat.reduceAdd, Nat.reduceMul, f5, ff_7]
    repeat (first | apply qqa | apply qqb | apply qqc | apply qqd | apply qqe | apply qqf | apply qqg | apply qqh | refine qqi rfl ?_ | ((first | (refine WK.rgn ?_ ?_; kernel_rfl) | refine AtCall.now ?_); simp (config := { maxSteps := 1000000 }) only [SS, qg0, qgb, qgl, qgi, qge, forall_const, tor, vun, tlen2, tpick, textr, tbox, one, Go.AM.splice, Int.reduceEq, Int.reduceNeg, Nat.reduceGT, Nat.reduceLT, Nat.reduceLeDiff, Nat.reduceEqDiff, ↓reduceIte, reduceCtorEq, Int.reduceToNat, Int.reduceLE, Int.reduceLT, Nat.reduceAdd, Nat.reduceMul, ff_7]) | refine qqj rfl ?_ | refine qqk rfl ?_)
    (first | refine WK.retNil ⟨Or.inr rfl, _, rfl, ?_, ?_⟩ | refine WK.skipNil ⟨Or.inl rfl, _, rfl, ?_, ?_⟩)
    · exact fun x hx => (k10.keep x (by have := kk9.le; omega)).trans ((kk9.keep x (by omega)).trans ((keep6 x (by omega)).trans (kk4.keep x hx)))
    · simp only [packed, fset_apply, Nat.reduceEqDiff, ↓reduceIte, List.getD_cons_zero, List.getD_cons_succ, ff_7]
end Go.Proofs.Ytpdlmpbhohinpaa
