/- A part of a proof. Its conditions: none. -/
import Derived.Test.YtpdlmpbhohinpaaAmCLfReplay
import Derived.Test.YtpdlmpbhohinpaaAmD
import Derived.Test.YtpdlmpbhohinpaaAmC
set_option linter.all false
namespace Go.Proofs.Ytpdlmpbhohinpaa
open Go.AM
set_option maxRecDepth 100000
def leadV (form : List Int) : List Int := (form.takeWhile AM.neg).map fun s => -s - 1
def leadP (form : List Int) : Int := if form.dropWhile AM.neg = [] then -1 else ((form.takeWhile AM.neg).length : Int)
set_option maxHeartbeats 4000000 in
theorem lead_gives {p : Option Addr} {form : List Int} {n : Nat} {H : Heap} (hw : WF n H) (hp : RA (Value.int .i64) H p form) (hl : form.length ≤ 2147483648) (hr : ∀ s ∈ form, -9223372036854775808 ≤ s) :
    Gives Try.prog 53 [.slice p form.length form.length] n H fun v _ H' => ∃ p', v = .tuple #[.slice p' (leadV form).length (leadV form).length, .int .i64 (leadP form)] ∧ RS (Value.int .i64) H' p' (leadV form) := by
  refine Gives.of orders ok53 (Nat.le_of_ble_eq_true rfl) ?_
  repeat (first | apply qqa | apply qqb | apply qqc | apply qqd | apply qqe | apply qqf | apply qqg | apply qqh | refine qqi rfl ?_ | ((first | (refine WK.rgn ?_ ?_; kernel_rfl) | refine AtCall.now ?_); simp (config := { maxSteps := 1000000 }) only [SS, qg0, qgb, qgl, qgi, qgz, qge, forall_const, tor, vun, tlen2, Go.AM.splice, one, Int.reduceEq, Int.reduceNeg, Nat.reduceGT, Nat.reduceLT, Nat.reduceLeDiff, Nat.reduceEqDiff, ↓reduceIte, reduceCtorEq, Int.reduceToNat, Int.reduceLE, Int.reduceLT, Nat.reduceAdd, Nat.reduceMul, ff_53]) | refine qqj rfl ?_ | refine qqk rfl ?_)
  refine WK.loop (fun k s => ∃ (j : Nat) (o : List Int), Kp n H s.n s.H ∧ (s.f 4 = .slice none 0 0 ∧ o = [] ∨ ∃ y, s.f 4 = .slice (some ⟨y, 0, none⟩) o.length o.length ∧ s.H y = .cells (o.map (Value.int .i64)) 3 true ∧ n ≤ y) ∧ s.f 7 = .slice p form.length form.length ∧ s.f 8 = .int .i64 (form.length : Nat) ∧ s.f 9 = .int .i64 (j : Nat) ∧ j ≤ form.length ∧
      (∀ s ∈ form.take j, s < 0) ∧ o = (form.take j).map (fun s => -s - 1) ∧ k = form.length - j) form.length ?_ ?_
  · exact ⟨0, [], Kp.refl _ _, .inl ⟨rfl, rfl⟩, rfl, rfl, rfl, Nat.zero_le _, by simp, by simp, rfl⟩
  rintro kk ⟨f, n5, H5⟩ ⟨j, o, kp, ho, f7, f8, f9, hj, hneg, hoe, rfl⟩ ih
  simp only at ho f7 f8 f9 ih kp
  have hw5 := kp.wf hw
  have hrs : ∀ (v : Value), v = f 4 → ∃ p', v = .slice p' o.length o.length ∧ RS (Value.int .i64) H5 p' o := by
    rintro v rfl
    rcases ho with ⟨e, rfl⟩ | ⟨y, e, hy, _⟩
    · exact ⟨none, e, .inl ⟨rfl, rfl⟩⟩
    · refine ⟨_, e, .inr ⟨y, 0, _, _, _, rfl, hy, by simp, fun i s e => ?_⟩⟩
      rw [List.getElem?_map, Nat.zero_add, e]; rfl
  have hol : o.length = j := by rw [hoe, List.length_map, List.length_take]; omega
  by_cases hjl : j < form.length
  · have hjw : IntKind.i64.wrap ((j : Int) + 1) = ((j + 1 : Nat) : Int) := by rw [wrap_in (by omega) (by omega)]; rfl
    obtain ⟨x, kx, ds, tx, ox, rfl, hx, ex⟩ := (hp.mono hw kp).at hjl
    have htj : form.take (j + 1) = form.take j ++ [form[j]] := List.take_succ_eq_append_getElem hjl
    repeat (first | apply qqa | apply qqb | apply qqc | apply qqd | apply qqe | apply qqf | apply qqg | apply qqh | refine qqi rfl ?_ | ((first | (refine WK.rgn ?_ ?_; kernel_rfl) | refine AtCall.now ?_); simp (config := { maxSteps := 1000000 }) only [SS, qg0, qgb, qgl, qgi, qgz, qge, forall_const, tor, vun, tlen2, Go.AM.splice, one, Int.reduceEq, Int.reduceNeg, Nat.reduceGT, Nat.reduceLT, Nat.reduceLeDiff, Nat.reduceEqDiff, ↓reduceIte, reduceCtorEq, Int.reduceToNat, Int.reduceLE, Int.reduceLT, Nat.reduceAdd, Nat.reduceMul, f7, f8, f9, hjl, hx, ex, ff_53]) | refine qqj rfl ?_ | refine qqk rfl ?_)
    refine AtCall.by (isVar_gives _ _ _) ?_
    rintro v n2 H2 hk2 ⟨rfl, rfl, rfl⟩
    by_cases h0 : 0 ≤ form[j]
    · simp (config := { maxSteps := 1000000 }) only [SS, qg0, qgb, qgl, qgi, qgz, qge, forall_const, tor, vun, tlen2, Go.AM.splice, one, Int.reduceEq, Int.reduceNeg, Nat.reduceGT, Nat.reduceLT, Nat.reduceLeDiff, Nat.reduceEqDiff, ↓reduceIte, reduceCtorEq, Int.reduceToNat, Int.reduceLE, Int.reduceLT, Nat.reduceAdd, Nat.reduceMul, h0, ff_53]
      repeat (first | apply qqa | apply qqb | apply qqc | apply qqd | apply qqe | apply qqf | apply qqg | apply qqh | refine qqi rfl ?_ | ((first | (refine WK.rgn ?_ ?_; kernel_rfl) | refine AtCall.now ?_); simp (config := { maxSteps := 1000000 }) only [SS, qg0, qgb, qgl, qgi, qgz, qge, forall_const, tor, vun, tlen2, Go.AM.splice, one, Int.reduceEq, Int.reduceNeg, Nat.reduceGT, Nat.reduceLT, Nat.reduceLeDiff, Nat.reduceEqDiff, ↓reduceIte, reduceCtorEq, Int.reduceToNat, Int.reduceLE, Int.reduceLT, Nat.reduceAdd, Nat.reduceMul, ff_53]) | refine qqj rfl ?_ | refine qqk rfl ?_)
      (first | refine WK.retNil ⟨Or.inr rfl, _, rfl, ?_, ?_⟩ | refine WK.skipNil ⟨Or.inl rfl, _, rfl, ?_, ?_⟩)
      · exact kp.keep
      · simp only [packed, fset_apply, Nat.reduceEqDiff, ↓reduceIte, List.getD_cons_zero, List.getD_cons_succ, ff_53]
        obtain ⟨e1, e2⟩ := tw_at hjl hneg h0
        obtain ⟨p', e3, h3⟩ := hrs _ rfl
        rw [e3]
        unfold leadV leadP
        rw [e1, e2, ← hoe]
        refine ⟨p', ?_, h3⟩
        rw [if_neg (List.cons_ne_nil _ _), List.length_take, Nat.min_eq_left (Nat.le_of_lt hjl)]
    · have hn := bnot_i64 (n := form[j]) (hr _ (List.getElem_mem hjl)) (by omega)
      have hneg' : ∀ s ∈ form.take (j + 1), s < 0 := fun s hs => by
        rw [htj] at hs
        rcases List.mem_append.1 hs with hs | hs
        · exact hneg s hs
        · have : s = form[j] := by simpa using hs
          omega
      have hoe' : o ++ [-form[j] - 1] = (form.take (j + 1)).map (fun s => -s - 1) := by rw [htj, List.map_append, ← hoe]; rfl
      rcases ho with ⟨e, rfl⟩ | ⟨y, e, hy, hyn⟩
      · simp (config := { maxSteps := 1000000 }) only [SS, qg0, qgb, qgl, qgi, qgz, qge, forall_const, tor, vun, tlen2, Go.AM.splice, one, Int.reduceEq, Int.reduceNeg, Nat.reduceGT, Nat.reduceLT, Nat.reduceLeDiff, Nat.reduceEqDiff, ↓reduceIte, reduceCtorEq, Int.reduceToNat, Int.reduceLE, Int.reduceLT, Nat.reduceAdd, Nat.reduceMul, h0, ff_53]
        repeat (first | apply qqa | apply qqb | apply qqc | apply qqd | apply qqe | apply qqf | apply qqg | apply qqh | refine qqi rfl ?_ | ((first | (refine WK.rgn ?_ ?_; kernel_rfl) | refine AtCall.now ?_); simp (config := { maxSteps := 1000000 }) only [SS, qg0, qgb, qgl, qgi, qgz, qge, forall_const, tor, vun, tlen2, Go.AM.splice, one, Int.reduceEq, Int.reduceNeg, Nat.reduceGT, Nat.reduceLT, Nat.reduceLeDiff, Nat.reduceEqDiff, ↓reduceIte, reduceCtorEq, Int.reduceToNat, Int.reduceLE, Int.reduceLT, Nat.reduceAdd, Nat.reduceMul, e, f9, hjw, hn, ff_53]) | refine qqj rfl ?_ | refine qqk rfl ?_)
        refine ih (form.length - (j + 1)) (by omega) _ ⟨j + 1, [-form[j] - 1], (kp.trans (Kp.new n2 H2 (.cells [.int .i64 (-form[j] - 1)] 3 true))).trans (Kp.new (n2 + 1) _ (.cells [.int .i64 (-form[j] - 1)] 3 true)), .inr ⟨n2 + 1, rfl, hset_at _ _ _, by have := kp.le; omega⟩, f7, f8, ?_, hjl, hneg', hoe', rfl⟩
        simp only [packed, fset_apply, Nat.reduceEqDiff, ↓reduceIte, List.getD_cons_zero, List.getD_cons_succ, f9, hjw, ff_53]
      · have hyl := live_lt hw5 (live_of hy)
        have v1 : o.length ≤ (o.map (Value.int .i64)).length := by simp
        have v2 : [n2].contains y = false := by simp; omega
        have v3 : o.length + 1 ≤ bigN := by unfold bigN; omega
        have v5 : ∀ q, hset H2 n2 q y = _ := fun q => (hset_ne _ _ _ (by omega)).trans hy
        have v6 : (o.map (Value.int .i64)).take o.length = o.map (Value.int .i64) := List.take_of_length_le (by simp)
        simp (config := { maxSteps := 1000000 }) only [SS, qg0, qgb, qgl, qgi, qgz, qge, forall_const, tor, vun, tlen2, Go.AM.splice, one, Int.reduceEq, Int.reduceNeg, Nat.reduceGT, Nat.reduceLT, Nat.reduceLeDiff, Nat.reduceEqDiff, ↓reduceIte, reduceCtorEq, Int.reduceToNat, Int.reduceLE, Int.reduceLT, Nat.reduceAdd, Nat.reduceMul, h0, ff_53]
        repeat (first | apply qqa | apply qqb | apply qqc | apply qqd | apply qqe | apply qqf | apply qqg | apply qqh | refine qqi rfl ?_ | ((first | (refine WK.rgn ?_ ?_; kernel_rfl) | refine AtCall.now ?_); simp (config := { maxSteps := 1000000 }) only [SS, qg0, qgb, qgl, qgi, qgz, qge, forall_const, tor, vun, tlen2, Go.AM.splice, one, Int.reduceEq, Int.reduceNeg, Nat.reduceGT, Nat.reduceLT, Nat.reduceLeDiff, Nat.reduceEqDiff, ↓reduceIte, reduceCtorEq, Int.reduceToNat, Int.reduceLE, Int.reduceLT, Nat.reduceAdd, Nat.reduceMul, e, f9, hjw, hn, v1, v2, v3, v5, v6, List.drop_zero, ff_53]) | refine qqj rfl ?_ | refine qqk rfl ?_)
        refine ih (form.length - (j + 1)) (by omega) _ ⟨j + 1, o ++ [-form[j] - 1], ((kp.trans (Kp.new n2 H2 (.cells [.int .i64 (-form[j] - 1)] 3 true))).set (x := y) .dead hyn (by omega)).trans (Kp.new (n2 + 1) _ (.cells (o.map (Value.int .i64) ++ [.int .i64 (-form[j] - 1)]) 3 true)), .inr ⟨n2 + 1, ?_, ?_, by have := kp.le; omega⟩, f7, f8, ?_, hjl, hneg', hoe', rfl⟩
        · simp only [packed, fset_apply, Nat.reduceEqDiff, ↓reduceIte, List.getD_cons_zero, List.getD_cons_succ, ff_53]
          simp
        · refine (hset_at _ _ _).trans ?_
          rw [List.map_append]; rfl
        · simp only [packed, fset_apply, Nat.reduceEqDiff, ↓reduceIte, List.getD_cons_zero, List.getD_cons_succ, f9, hjw, ff_53]
  · repeat (first | apply qqa | apply qqb | apply qqc | apply qqd | apply qqe | apply qqf | apply qqg | apply qqh | refine qqi rfl ?_ | ((first | (refine WK.rgn ?_ ?_; kernel_rfl) | refine AtCall.now ?_); simp (config := { maxSteps := 1000000 }) only [SS, qg0, qgb, qgl, qgi, qgz, qge, forall_const, tor, vun, tlen2, Go.AM.splice, one, Int.reduceEq, Int.reduceNeg, Nat.reduceGT, Nat.reduceLT, Nat.reduceLeDiff, Nat.reduceEqDiff, ↓reduceIte, reduceCtorEq, Int.reduceToNat, Int.reduceLE, Int.reduceLT, Nat.reduceAdd, Nat.reduceMul, f8, f9, hjl, ff_53]) | refine qqj rfl ?_ | refine qqk rfl ?_)
    (first | refine WK.retNil ⟨Or.inr rfl, _, rfl, ?_, ?_⟩ | refine WK.skipNil ⟨Or.inl rfl, _, rfl, ?_, ?_⟩)
    · exact kp.keep
    · simp only [packed, fset_apply, Nat.reduceEqDiff, ↓reduceIte, List.getD_cons_zero, List.getD_cons_succ, ff_53]
      rw [List.take_of_length_le (by omega)] at hneg hoe
      obtain ⟨e1, e2⟩ := tw_all hneg
      obtain ⟨p', e3, h3⟩ := hrs _ rfl
      rw [e3]
      unfold leadV leadP
      rw [e1, e2, if_pos rfl, ← hoe]
      exact ⟨p', rfl, h3⟩
def yieldS (g : Gram) (form rules : List Int) : List Int × Nat :=
  if (replayL g form rules).2.2 = 0 then (if 0 ≤ leadP (replayL g form rules).1 then ([], 13) else (leadV (replayL g form rules).1, 0)) else ([], (replayL g form rules).2.2)
theorem stepS_ge {g : Gram} (ok : RightOK g) {form : List Int} (hf : ∀ s ∈ form, -9223372036854775808 ≤ s) (r : Int) : ∀ s ∈ (stepS g form r).1, -9223372036854775808 ≤ s := by
  by_cases h : (stepS g form r).2 = 0
  · obtain ⟨i, hi, t, rest, _, e1, e2, _⟩ := stepS_ok (g := g) (form := form) (r := r) (form' := (stepS g form r).1) (by rw [← h])
    intro s hs
    rw [e2] at hs
    have ht := ok.terms
    rcases List.mem_append.1 hs with hs | hs
    · rcases List.mem_append.1 hs with hs | hs
      · exact hf s (by rw [e1]; simp [hs])
      · have := ((ok.rule i hi).sym s hs).2
        omega
    · exact hf s (by rw [e1]; simp [hs])
  · have := stepS_err h
    rw [this]; intro s hs; cases hs
theorem replayS_ge {g : Gram} (ok : RightOK g) : ∀ (rules form : List Int) (k : Nat), (∀ s ∈ form, -9223372036854775808 ≤ s) → (∀ s ∈ (replayS g form rules k).1, -9223372036854775808 ≤ s) ∧ (replayS g form rules k).1.length ≤ form.length + 24 * rules.length := by
  intro rules
  induction rules with
  | nil => intro form k h; exact ⟨h, by simp [replayS]⟩
  | cons r rules ih =>
    intro form k h
    simp only [replayS]
    split
    · obtain ⟨h1, h2⟩ := ih (stepS g form r).1 (k + 1) (stepS_ge ok h r)
      refine ⟨h1, ?_⟩
      have := stepS_len ok form r
      rw [List.length_cons]; omega
    · exact ⟨fun s hs => (by cases hs), by simp⟩
theorem replayL_ge {g : Gram} (ok : RightOK g) (form rules : List Int) (h : ∀ s ∈ form, -9223372036854775808 ≤ s) : (∀ s ∈ (replayL g form rules).1, -9223372036854775808 ≤ s) ∧ (replayL g form rules).1.length ≤ form.length + 24 * rules.length := by
  unfold replayL
  split
  · exact ⟨fun s hs => (by cases hs), by simp⟩
  · exact replayS_ge ok _ _ _ h
theorem yield_gives {v : Value} {g : Gram} {p q : Option Addr} {form rules : List Int} {n : Nat} {H : Heap} (hw : WF n H) (hg : RG H v g) (wg : WG g) (ok : RightOK g) (hp : RA (Value.int .i64) H p form) (hq : RA (Value.int .i64) H q rules) (hl : form.length + 24 * rules.length + 24 ≤ 2147483648) (hf : ∀ s ∈ form, -9223372036854775808 ≤ s) :
    Gives Try.prog 27 [v, .slice p form.length form.length, .slice q rules.length rules.length] n H fun v _ H' => ∃ p', v = .tuple #[.slice p' (yieldS g form rules).1.length (yieldS g form rules).1.length, .int .i64 ((yieldS g form rules).2 : Nat)] ∧ RS (Value.int .i64) H' p' (yieldS g form rules).1 := by
  have hg0 := hg
  obtain ⟨pt, pv, pr, rfl, ht, hv, hr⟩ := hg
  refine Gives.of orders ok27 (Nat.le_of_ble_eq_true rfl) ?_
  have hk := Kp.new n H (.cells (gcells pt pv pr g) 25 true)
  have hb := hset_at H n (.cells (gcells pt pv pr g) 25 true)
  repeat (first | apply qqa | apply qqb | apply qqc | apply qqd | apply qqe | apply qqf | apply qqg | apply qqh | refine qqi rfl ?_)
  (refine WK.rgn ?_ ?_; kernel_rfl; simp (config := { maxSteps := 1000000 }) only [SS, qg0, qgb, qgl, forall_const, tor, textr, tbox, one, Int.reduceEq, Int.reduceNeg, Nat.reduceGT, Nat.reduceLT, Nat.reduceLeDiff, Nat.reduceEqDiff, ↓reduceIte, reduceCtorEq, Int.reduceToNat, Int.reduceLE, Int.reduceLT, Nat.reduceAdd, Nat.reduceMul, box_cells, box_one, ff_27])
  generalize hset H n (.cells (gcells pt pv pr g) 25 true) = H1 at *
  have hw1 := hk.wf hw
  have hge := replayL_ge ok form rules hf
  repeat (first | apply qqa | apply qqb | apply qqc | apply qqd | apply qqe | apply qqf | apply qqg | apply qqh | refine qqi rfl ?_)
  (refine WK.rgn ?_ ?_; kernel_rfl; simp (config := { maxSteps := 1000000 }) only [SS, qg0, qgb, qgl, forall_const, tor, textr, tbox, one, Int.reduceEq, Int.reduceNeg, Nat.reduceGT, Nat.reduceLT, Nat.reduceLeDiff, Nat.reduceEqDiff, ↓reduceIte, reduceCtorEq, Int.reduceToNat, Int.reduceLE, Int.reduceLT, Nat.reduceAdd, Nat.reduceMul, hb, gc_len, gc_all, ff_27])
  refine AtCall.by (replay_gives hw1 (hg0.mono hw hk) wg ok (hp.mono hw hk) (hq.mono hw hk) hl) ?_
  rintro v n2 H2 k2 ⟨p2, rfl, hp2⟩
  have kk := hk.trans k2
  unfold yieldS
  generalize replayL g form rules = R at *
  obtain ⟨out, w, e⟩ := R
  simp only at hp2 hge ⊢
  by_cases he : e = 0
  · subst he
    have h00 : (((0 : Nat) : Int) = 0) = True := by simp
    simp (config := { maxSteps := 1000000 }) only [SS, qg0, qgb, qgl, forall_const, tor, textr, tbox, one, Int.reduceEq, Int.reduceNeg, Nat.reduceGT, Nat.reduceLT, Nat.reduceLeDiff, Nat.reduceEqDiff, ↓reduceIte, reduceCtorEq, Int.reduceToNat, Int.reduceLE, Int.reduceLT, Nat.reduceAdd, Nat.reduceMul, ff_27]
    repeat (first | apply qqa | apply qqb | apply qqc | apply qqd | apply qqe | apply qqf | apply qqg | apply qqh | refine qqi rfl ?_ | ((first | (refine WK.rgn ?_ ?_; kernel_rfl) | refine AtCall.now ?_); simp (config := { maxSteps := 1000000 }) only [SS, qg0, qgb, qgl, forall_const, tor, textr, tbox, one, Int.reduceEq, Int.reduceNeg, Nat.reduceGT, Nat.reduceLT, Nat.reduceLeDiff, Nat.reduceEqDiff, ↓reduceIte, reduceCtorEq, Int.reduceToNat, Int.reduceLE, Int.reduceLT, Nat.reduceAdd, Nat.reduceMul, h00, ff_27]) | refine qqj rfl ?_ | refine qqk rfl ?_)
    refine AtCall.by (lead_gives (kk.wf hw) hp2.ra (by omega) hge.1) ?_
    rintro v n3 H3 k3 ⟨p3, rfl, hp3⟩
    by_cases hlp : 0 ≤ leadP out
    · simp (config := { maxSteps := 1000000 }) only [SS, qg0, qgb, qgl, forall_const, tor, textr, tbox, one, Int.reduceEq, Int.reduceNeg, Nat.reduceGT, Nat.reduceLT, Nat.reduceLeDiff, Nat.reduceEqDiff, ↓reduceIte, reduceCtorEq, Int.reduceToNat, Int.reduceLE, Int.reduceLT, Nat.reduceAdd, Nat.reduceMul, ff_27]
      repeat (first | apply qqa | apply qqb | apply qqc | apply qqd | apply qqe | apply qqf | apply qqg | apply qqh | refine qqi rfl ?_ | ((first | (refine WK.rgn ?_ ?_; kernel_rfl) | refine AtCall.now ?_); simp (config := { maxSteps := 1000000 }) only [SS, qg0, qgb, qgl, forall_const, tor, textr, tbox, one, Int.reduceEq, Int.reduceNeg, Nat.reduceGT, Nat.reduceLT, Nat.reduceLeDiff, Nat.reduceEqDiff, ↓reduceIte, reduceCtorEq, Int.reduceToNat, Int.reduceLE, Int.reduceLT, Nat.reduceAdd, Nat.reduceMul, hlp, ff_27]) | refine qqj rfl ?_ | refine qqk rfl ?_)
      (first | refine WK.retNil ⟨Or.inr rfl, _, rfl, ?_, ?_⟩ | refine WK.skipNil ⟨Or.inl rfl, _, rfl, ?_, ?_⟩)
      · exact (kk.trans k3).keep
      · simp only [packed, fset_apply, Nat.reduceEqDiff, ↓reduceIte, List.getD_cons_zero, List.getD_cons_succ, ff_27]
        exact ⟨none, rfl, .inl ⟨rfl, rfl⟩⟩
    · simp (config := { maxSteps := 1000000 }) only [SS, qg0, qgb, qgl, forall_const, tor, textr, tbox, one, Int.reduceEq, Int.reduceNeg, Nat.reduceGT, Nat.reduceLT, Nat.reduceLeDiff, Nat.reduceEqDiff, ↓reduceIte, reduceCtorEq, Int.reduceToNat, Int.reduceLE, Int.reduceLT, Nat.reduceAdd, Nat.reduceMul, ff_27]
      repeat (first | apply qqa | apply qqb | apply qqc | apply qqd | apply qqe | apply qqf | apply qqg | apply qqh | refine qqi rfl ?_ | ((first | (refine WK.rgn ?_ ?_; kernel_rfl) | refine AtCall.now ?_); simp (config := { maxSteps := 1000000 }) only [SS, qg0, qgb, qgl, forall_const, tor, textr, tbox, one, Int.reduceEq, Int.reduceNeg, Nat.reduceGT, Nat.reduceLT, Nat.reduceLeDiff, Nat.reduceEqDiff, ↓reduceIte, reduceCtorEq, Int.reduceToNat, Int.reduceLE, Int.reduceLT, Nat.reduceAdd, Nat.reduceMul, hlp, ff_27]) | refine qqj rfl ?_ | refine qqk rfl ?_)
      (first | refine WK.retNil ⟨Or.inr rfl, _, rfl, ?_, ?_⟩ | refine WK.skipNil ⟨Or.inl rfl, _, rfl, ?_, ?_⟩)
      · exact (kk.trans k3).keep
      · simp only [packed, fset_apply, Nat.reduceEqDiff, ↓reduceIte, List.getD_cons_zero, List.getD_cons_succ, ff_27]
        exact ⟨p3, rfl, hp3⟩
  · have h00 : ((e : Int) = 0) = False := by simp; exact he
    simp (config := { maxSteps := 1000000 }) only [SS, qg0, qgb, qgl, forall_const, tor, textr, tbox, one, Int.reduceEq, Int.reduceNeg, Nat.reduceGT, Nat.reduceLT, Nat.reduceLeDiff, Nat.reduceEqDiff, ↓reduceIte, reduceCtorEq, Int.reduceToNat, Int.reduceLE, Int.reduceLT, Nat.reduceAdd, Nat.reduceMul, ff_27]
    repeat (first | apply qqa | apply qqb | apply qqc | apply qqd | apply qqe | apply qqf | apply qqg | apply qqh | refine qqi rfl ?_ | ((first | (refine WK.rgn ?_ ?_; kernel_rfl) | refine AtCall.now ?_); simp (config := { maxSteps := 1000000 }) only [SS, qg0, qgb, qgl, forall_const, tor, textr, tbox, one, Int.reduceEq, Int.reduceNeg, Nat.reduceGT, Nat.reduceLT, Nat.reduceLeDiff, Nat.reduceEqDiff, ↓reduceIte, reduceCtorEq, Int.reduceToNat, Int.reduceLE, Int.reduceLT, Nat.reduceAdd, Nat.reduceMul, h00, ff_27]) | refine qqj rfl ?_ | refine qqk rfl ?_)
    (first | refine WK.retNil ⟨Or.inr rfl, _, rfl, ?_, ?_⟩ | refine WK.skipNil ⟨Or.inl rfl, _, rfl, ?_, ?_⟩)
    · exact kk.keep
    · simp only [packed, fset_apply, Nat.reduceEqDiff, ↓reduceIte, List.getD_cons_zero, List.getD_cons_succ, ff_27]
      rw [if_neg he]
      exact ⟨none, rfl, .inl ⟨rfl, rfl⟩⟩
end Go.Proofs.Ytpdlmpbhohinpaa
