/- A part of a proof. Its conditions: none. -/
import Derived.Test.YtplnndgdklfnfaaAmLfRight
import Derived.Test.YtplnndgdklfnfaaAmLfNullable
import Derived.Test.YtplnndgdklfnfaaAmC
set_option linter.all false
namespace Go.Proofs.Ytplnndgdklfnfaa
open Go.AM

theorem tw_at {l : List Int} {j : Nat} (hj : j < l.length) (h : ∀ s ∈ l.take j, s < 0) (h0 : 0 ≤ l[j]) : l.takeWhile neg = l.take j ∧ l.dropWhile neg = l[j] :: l.drop (j + 1) := by
  induction l generalizing j with
  | nil => simp at hj
  | cons a l ih =>
    cases j with
    | zero =>
      have e : neg a = false := by simp [neg]; simpa using h0
      simp [e]
    | succ j =>
      have ha := h a (by simp)
      have e : neg a = true := by simp [neg]; exact ha
      obtain ⟨h1, h2⟩ := ih (j := j) (by simpa using hj) (fun s hs => h s (by simp [hs])) (by simpa using h0)
      simp only [List.takeWhile_cons, List.dropWhile_cons, e, if_true, h1, h2]
      exact ⟨rfl, by simp⟩

theorem tw_all {l : List Int} (h : ∀ s ∈ l, s < 0) : l.takeWhile neg = l ∧ l.dropWhile neg = [] := by
  induction l with
  | nil => exact ⟨rfl, rfl⟩
  | cons a l ih =>
    have e : neg a = true := by simp [neg]; exact h a (by simp)
    obtain ⟨h1, h2⟩ := ih fun s hs => h s (by simp [hs])
    simp only [List.takeWhile_cons, List.dropWhile_cons, e, if_true, h1, h2]
    exact ⟨trivial, trivial⟩

/-- The place of a form's first variable; -1: it has none. -/
def firstS (l : List Int) : Int := if l.dropWhile neg = [] then -1 else (l.takeWhile neg).length

theorem first7_gives {p : Option Addr} {l : List Int} {n : Nat} {H : Heap} (hp : RA (Value.int .i64) H p l) (hl : l.length < 9223372036854775807) :
    Gives Try.prog 52 [.slice p l.length l.length] n H fun v n' H' => v = .int .i64 (firstS l) ∧ n' = n ∧ H' = H := by
  refine Gives.of orders ok52 (Nat.le_of_ble_eq_true rfl) ?_
-- function 52
  repeat (first | apply WK.seq | apply WK.block | apply WK.skipSeq | apply WK.skipBlock | apply WK.retSeq | apply WK.retBlock | apply WK.exitSeq | apply WK.exitHere | refine WK.exitOn rfl ?_ | ((first | (refine WK.rgn ?_ ?_; kernel_rfl) | refine AtCall.now ?_); simp (config := { maxSteps := 1000000 }) only [SS, forall_const, wx, tguard, acallee, top, tval, fput, tor, vsh, vbin, tload, tload2, tload3, tidx, tidx2, tlen2, Int.reduceEq, Int.reduceNeg, Nat.reduceGT, Nat.reduceLT, Nat.reduceLeDiff, Nat.reduceEqDiff, ↓reduceIte, reduceCtorEq, Int.reduceToNat, Int.reduceLE, Int.reduceLT, Nat.reduceAdd, Nat.reduceMul, ff_52]) | (refine WK.condT ?_ ?_; focus (simp only [ev_tmp, ev_const, fset_apply, Nat.reduceEqDiff, ↓reduceIte, decide_true, decide_false, ff_52]; done)) | (refine WK.condF ?_ ?_; focus (simp only [ev_tmp, ev_const, fset_apply, Nat.reduceEqDiff, ↓reduceIte, decide_true, decide_false, ff_52]; done)))
  refine WK.loop (fun k s => ∃ j, s.n = n ∧ s.H = H ∧ s.f 0 = .slice p l.length l.length ∧ s.f 3 = .int .i64 (j : Nat) ∧ j ≤ l.length ∧ k = l.length - j ∧ ∀ s ∈ l.take j, s < 0) l.length ?_ ?_
  · exact ⟨0, rfl, rfl, rfl, rfl, Nat.zero_le _, rfl, by simp⟩
  rintro kk ⟨f, n', H'⟩ ⟨j, rfl, rfl, f0, f3, hj, rfl, hn⟩ ih
  simp only at f0 f3 ih hp
  by_cases hjl : j < l.length
  · obtain ⟨z, k, cs, ty, own, rfl, hz, e⟩ := hp.at hjl
    by_cases hx : 0 ≤ l[j]
    · repeat (first | apply WK.seq | apply WK.block | apply WK.skipSeq | apply WK.skipBlock | apply WK.retSeq | apply WK.retBlock | apply WK.exitSeq | apply WK.exitHere | refine WK.exitOn rfl ?_ | ((first | (refine WK.rgn ?_ ?_; kernel_rfl) | refine AtCall.now ?_); simp (config := { maxSteps := 1000000 }) only [SS, forall_const, wx, tguard, acallee, top, tval, fput, tor, vsh, vbin, tload, tload2, tload3, tidx, tidx2, tlen2, Int.reduceEq, Int.reduceNeg, Nat.reduceGT, Nat.reduceLT, Nat.reduceLeDiff, Nat.reduceEqDiff, ↓reduceIte, reduceCtorEq, Int.reduceToNat, Int.reduceLE, Int.reduceLT, Nat.reduceAdd, Nat.reduceMul, f0, f3, hjl, hz, e, hx, ff_52]) | (refine WK.condT ?_ ?_; focus (simp only [ev_tmp, ev_const, fset_apply, Nat.reduceEqDiff, ↓reduceIte, decide_true, decide_false, f0, f3, hjl, hz, e, hx, ff_52]; done)) | (refine WK.condF ?_ ?_; focus (simp only [ev_tmp, ev_const, fset_apply, Nat.reduceEqDiff, ↓reduceIte, decide_true, decide_false, f0, f3, hjl, hz, e, hx, ff_52]; done)))
      (first | refine WK.retNil ⟨Or.inr rfl, _, rfl, ?_, ?_⟩ | refine WK.skipNil ⟨Or.inl rfl, _, rfl, ?_, ?_⟩)
      · exact fun _ _ => rfl
      · simp only [packed, fset_apply, Nat.reduceEqDiff, ↓reduceIte, List.getD_cons_zero, List.getD_cons_succ, ff_52]
        obtain ⟨h1, h2⟩ := tw_at hjl hn hx
        refine ⟨?_, trivial, trivial⟩
        unfold firstS
        rw [h2, h1, if_neg (List.cons_ne_nil _ _), List.length_take, Nat.min_eq_left (Nat.le_of_lt hjl)]
    · repeat (first | apply WK.seq | apply WK.block | apply WK.skipSeq | apply WK.skipBlock | apply WK.retSeq | apply WK.retBlock | apply WK.exitSeq | apply WK.exitHere | refine WK.exitOn rfl ?_ | ((first | (refine WK.rgn ?_ ?_; kernel_rfl) | refine AtCall.now ?_); simp (config := { maxSteps := 1000000 }) only [SS, forall_const, wx, tguard, acallee, top, tval, fput, tor, vsh, vbin, tload, tload2, tload3, tidx, tidx2, tlen2, Int.reduceEq, Int.reduceNeg, Nat.reduceGT, Nat.reduceLT, Nat.reduceLeDiff, Nat.reduceEqDiff, ↓reduceIte, reduceCtorEq, Int.reduceToNat, Int.reduceLE, Int.reduceLT, Nat.reduceAdd, Nat.reduceMul, f0, f3, hjl, hz, e, hx, ff_52]) | (refine WK.condT ?_ ?_; focus (simp only [ev_tmp, ev_const, fset_apply, Nat.reduceEqDiff, ↓reduceIte, decide_true, decide_false, f0, f3, hjl, hz, e, hx, ff_52]; done)) | (refine WK.condF ?_ ?_; focus (simp only [ev_tmp, ev_const, fset_apply, Nat.reduceEqDiff, ↓reduceIte, decide_true, decide_false, f0, f3, hjl, hz, e, hx, ff_52]; done)))
      refine ih (l.length - (j + 1)) (by omega) _ ⟨j + 1, rfl, rfl, f0, ?_, hjl, rfl, ?_⟩
      · simp only [packed, fset_apply, Nat.reduceEqDiff, ↓reduceIte, List.getD_cons_zero, List.getD_cons_succ, f3, ff_52]
        rw [wrap_in (by omega) (by omega)]; rfl
      · intro s hs
        rw [List.take_succ_eq_append_getElem hjl, List.mem_append] at hs
        rcases hs with hs | hs
        · exact hn s hs
        · simp at hs; subst hs; omega
  · repeat (first | apply WK.seq | apply WK.block | apply WK.skipSeq | apply WK.skipBlock | apply WK.retSeq | apply WK.retBlock | apply WK.exitSeq | apply WK.exitHere | refine WK.exitOn rfl ?_ | ((first | (refine WK.rgn ?_ ?_; kernel_rfl) | refine AtCall.now ?_); simp (config := { maxSteps := 1000000 }) only [SS, forall_const, wx, tguard, acallee, top, tval, fput, tor, vsh, vbin, tload, tload2, tload3, tidx, tidx2, tlen2, Int.reduceEq, Int.reduceNeg, Nat.reduceGT, Nat.reduceLT, Nat.reduceLeDiff, Nat.reduceEqDiff, ↓reduceIte, reduceCtorEq, Int.reduceToNat, Int.reduceLE, Int.reduceLT, Nat.reduceAdd, Nat.reduceMul, f0, f3, hjl, ff_52]) | (refine WK.condT ?_ ?_; focus (simp only [ev_tmp, ev_const, fset_apply, Nat.reduceEqDiff, ↓reduceIte, decide_true, decide_false, f0, f3, hjl, ff_52]; done)) | (refine WK.condF ?_ ?_; focus (simp only [ev_tmp, ev_const, fset_apply, Nat.reduceEqDiff, ↓reduceIte, decide_true, decide_false, f0, f3, hjl, ff_52]; done)))
    (first | refine WK.retNil ⟨Or.inr rfl, _, rfl, ?_, ?_⟩ | refine WK.skipNil ⟨Or.inl rfl, _, rfl, ?_, ?_⟩)
    · exact fun _ _ => rfl
    · simp only [packed, fset_apply, Nat.reduceEqDiff, ↓reduceIte, List.getD_cons_zero, List.getD_cons_succ, ff_52]
      rw [List.take_of_length_le (by omega)] at hn
      obtain ⟨h1, h2⟩ := tw_all hn
      refine ⟨?_, trivial, trivial⟩
      unfold firstS
      rw [h2, if_pos rfl]

/-- What is laid of the new form at a place of the old one. -/
def outAt (form right : List Int) (a k : Nat) : List Int := if k ≤ a then form.take k else form.take a ++ right ++ (form.drop (a + 1)).take (k - a - 1)

theorem outAt_len {form right : List Int} {a k : Nat} (hk : k ≤ form.length) : (outAt form right a k).length ≤ k + right.length := by
  unfold outAt
  split
  · simp; omega
  · simp only [List.length_append, List.length_take, List.length_drop]
    omega

theorem outAt_copy {form right : List Int} {a k : Nat} (hk : k < form.length) (hne : k ≠ a) (ha : a < form.length) : outAt form right a (k + 1) = outAt form right a k ++ [form[k]] := by
  unfold outAt
  by_cases h : k < a
  · rw [if_pos (by omega), if_pos (by omega), List.take_succ_eq_append_getElem hk]
  · rw [if_neg (by omega), if_neg (by omega)]
    have e : k + 1 - a - 1 = (k - a - 1) + 1 := by omega
    have hd : k - a - 1 < (form.drop (a + 1)).length := by rw [List.length_drop]; omega
    rw [e, List.take_succ_eq_append_getElem hd, ← List.append_assoc]
    congr 2
    rw [List.getElem_drop]
    congr 1
    omega

theorem outAt_right {form right : List Int} {a : Nat} (ha : a < form.length) : outAt form right a (a + 1) = outAt form right a a ++ right := by
  unfold outAt
  rw [if_neg (by omega), if_pos (Nat.le_refl _)]
  simp

theorem outAt_all {form right : List Int} {a : Nat} (ha : a < form.length) : outAt form right a form.length = form.take a ++ right ++ form.drop (a + 1) := by
  unfold outAt
  rw [if_neg (by omega), List.take_of_length_le (l := form.drop (a + 1)) (by rw [List.length_drop]; omega)]

set_option maxHeartbeats 8000000 in
theorem step7_gives {v : Value} {g : Gram} {p : Option Addr} {form : List Int} {r : Int} {n : Nat} {H : Heap} (hw : WF n H) (hg : RG H v g) (wg : WG g) (ok : RightOK g) (hp : RA (Value.int .i64) H p form) (hl : form.length ≤ 2147483648) :
    Gives Try.prog 38 [v, .slice p form.length form.length, .int .i64 r] n H fun v _ H' => ∃ p', v = .tuple #[.slice p' (stepS g form r).1.length (stepS g form r).1.length, .int .i64 ((stepS g form r).2 : Nat)] ∧ RS (Value.int .i64) H' p' (stepS g form r).1 := by
  have hg0 := hg
  obtain ⟨pt, pv, pr, rfl, ht, hv, hr⟩ := hg
  refine Gives.of orders ok38 (Nat.le_of_ble_eq_true rfl) ?_
  have hk := Kp.new n H (.cells (gcells pt pv pr g) 25 true)
  have hb := hset_at H n (.cells (gcells pt pv pr g) 25 true)
  have hrl := ok.rules
-- function 38
  repeat (first | apply WK.seq | apply WK.block | apply WK.skipSeq | apply WK.skipBlock | apply WK.retSeq | apply WK.retBlock | apply WK.exitSeq | apply WK.exitHere | refine WK.exitOn rfl ?_)
  (refine WK.rgn ?_ ?_; kernel_rfl; simp (config := { maxSteps := 1000000 }) only [SS, forall_const, wx, tguard, acallee, top, tval, fput, tor, vsh, vbin, tload, tload2, tload3, tidx, tidx2, tfa, tfa2, tlen2, tpick, tbox, one, tbs, tbs2, afill, Go.AM.splice, tap, tap2, tap3, tap4, tsrc, tsrc2, Int.reduceEq, Int.reduceNeg, Nat.reduceGT, Nat.reduceLT, Nat.reduceLeDiff, Nat.reduceEqDiff, ↓reduceIte, reduceCtorEq, Int.reduceToNat, Int.reduceLE, Int.reduceLT, Nat.reduceAdd, Nat.reduceMul, box_cells, box_one, ff_38])
  have hw1 := hk.wf hw
  replace hp := hp.mono hw hk
  replace hr := hr.mono hw hk
  generalize hset H n (.cells (gcells pt pv pr g) 25 true) = H1 at *
  repeat (first | apply WK.seq | apply WK.block | apply WK.skipSeq | apply WK.skipBlock | apply WK.retSeq | apply WK.retBlock | apply WK.exitSeq | apply WK.exitHere | refine WK.exitOn rfl ?_)
  (refine WK.rgn ?_ ?_; kernel_rfl; simp (config := { maxSteps := 1000000 }) only [SS, forall_const, wx, tguard, acallee, top, tval, fput, tor, vsh, vbin, tload, tload2, tload3, tidx, tidx2, tfa, tfa2, tlen2, tpick, tbox, one, tbs, tbs2, afill, Go.AM.splice, tap, tap2, tap3, tap4, tsrc, tsrc2, Int.reduceEq, Int.reduceNeg, Nat.reduceGT, Nat.reduceLT, Nat.reduceLeDiff, Nat.reduceEqDiff, ↓reduceIte, reduceCtorEq, Int.reduceToNat, Int.reduceLE, Int.reduceLT, Nat.reduceAdd, Nat.reduceMul, ff_38])
  refine AtCall.by (first7_gives hp (by omega)) ?_
  rintro v n2 H2 hk2 ⟨rfl, rfl, rfl⟩
  simp (config := { maxSteps := 1000000 }) only [SS, forall_const, wx, tguard, acallee, top, tval, fput, tor, vsh, vbin, tload, tload2, tload3, tidx, tidx2, tfa, tfa2, tlen2, tpick, tbox, one, tbs, tbs2, afill, Go.AM.splice, tap, tap2, tap3, tap4, tsrc, tsrc2, Int.reduceEq, Int.reduceNeg, Nat.reduceGT, Nat.reduceLT, Nat.reduceLeDiff, Nat.reduceEqDiff, ↓reduceIte, reduceCtorEq, Int.reduceToNat, Int.reduceLE, Int.reduceLT, Nat.reduceAdd, Nat.reduceMul, ff_38]
  repeat (first | apply WK.seq | apply WK.block | apply WK.skipSeq | apply WK.skipBlock | apply WK.retSeq | apply WK.retBlock | apply WK.exitSeq | apply WK.exitHere | refine WK.exitOn rfl ?_)
  have err : ∀ e : Nat, stepS g form r = ([], e) → ∀ f : Fr, f 6 = .slice none 0 0 → f 7 = .int .i64 e → Fin Try.prog Try.f38.results.toList n H (fun v _ H' => ∃ p', v = .tuple #[.slice p' (stepS g form r).1.length (stepS g form r).1.length, .int .i64 ((stepS g form r).2 : Nat)] ∧ RS (Value.int .i64) H' p' (stepS g form r).1) .ret ⟨f, n + 1, H2⟩ :=
    fun e he f h6 h7 => ⟨Or.inr rfl, [f 6, f 7], rfl, hk.keep, none, by rw [he, h6, h7]; rfl, by rw [he]; exact .inl ⟨rfl, rfl⟩⟩
  by_cases hr0 : r < 0
  · repeat (first | apply WK.seq | apply WK.block | apply WK.skipSeq | apply WK.skipBlock | apply WK.retSeq | apply WK.retBlock | apply WK.exitSeq | apply WK.exitHere | refine WK.exitOn rfl ?_ | ((first | (refine WK.rgn ?_ ?_; kernel_rfl) | refine AtCall.now ?_); simp (config := { maxSteps := 1000000 }) only [SS, forall_const, wx, tguard, acallee, top, tval, fput, tor, vsh, vbin, tload, tload2, tload3, tidx, tidx2, tfa, tfa2, tlen2, tpick, tbox, one, tbs, tbs2, afill, Go.AM.splice, tap, tap2, tap3, tap4, tsrc, tsrc2, Int.reduceEq, Int.reduceNeg, Nat.reduceGT, Nat.reduceLT, Nat.reduceLeDiff, Nat.reduceEqDiff, ↓reduceIte, reduceCtorEq, Int.reduceToNat, Int.reduceLE, Int.reduceLT, Nat.reduceAdd, Nat.reduceMul, hr0, hb, gc_2, ff_38]) | (refine WK.condT ?_ ?_; focus (simp only [ev_tmp, ev_const, fset_apply, Nat.reduceEqDiff, ↓reduceIte, decide_true, decide_false, hr0, hb, gc_2, ff_38]; done)) | (refine WK.condF ?_ ?_; focus (simp only [ev_tmp, ev_const, fset_apply, Nat.reduceEqDiff, ↓reduceIte, decide_true, decide_false, hr0, hb, gc_2, ff_38]; done)))
    exact WK.retNil (err 12 (by unfold stepS; rw [if_pos (.inl hr0)]) _ rfl rfl)
  by_cases hr1 : (g.rules.length : Int) ≤ r
  · repeat (first | apply WK.seq | apply WK.block | apply WK.skipSeq | apply WK.skipBlock | apply WK.retSeq | apply WK.retBlock | apply WK.exitSeq | apply WK.exitHere | refine WK.exitOn rfl ?_ | ((first | (refine WK.rgn ?_ ?_; kernel_rfl) | refine AtCall.now ?_); simp (config := { maxSteps := 1000000 }) only [SS, forall_const, wx, tguard, acallee, top, tval, fput, tor, vsh, vbin, tload, tload2, tload3, tidx, tidx2, tfa, tfa2, tlen2, tpick, tbox, one, tbs, tbs2, afill, Go.AM.splice, tap, tap2, tap3, tap4, tsrc, tsrc2, Int.reduceEq, Int.reduceNeg, Nat.reduceGT, Nat.reduceLT, Nat.reduceLeDiff, Nat.reduceEqDiff, ↓reduceIte, reduceCtorEq, Int.reduceToNat, Int.reduceLE, Int.reduceLT, Nat.reduceAdd, Nat.reduceMul, hr0, hr1, hb, gc_2, ff_38]) | (refine WK.condT ?_ ?_; focus (simp only [ev_tmp, ev_const, fset_apply, Nat.reduceEqDiff, ↓reduceIte, decide_true, decide_false, hr0, hr1, hb, gc_2, ff_38]; done)) | (refine WK.condF ?_ ?_; focus (simp only [ev_tmp, ev_const, fset_apply, Nat.reduceEqDiff, ↓reduceIte, decide_true, decide_false, hr0, hr1, hb, gc_2, ff_38]; done)))
    exact WK.retNil (err 12 (by unfold stepS; rw [if_pos (.inr hr1)]) _ rfl rfl)
  obtain ⟨i, rfl⟩ : ∃ i : Nat, r = i := ⟨r.toNat, by omega⟩
  have hi : i < g.rules.length := by omega
  have hi' : ¬ g.rules.length ≤ i := by omega
  have hneg : ((i : Int) < 0) = False := by simp
  by_cases hd : form.dropWhile neg = []
  · have hf : firstS form = -1 := by unfold firstS; rw [if_pos hd]
    have hf0 : ((-1 : Int) < 0) = True := by simp
    repeat (first | apply WK.seq | apply WK.block | apply WK.skipSeq | apply WK.skipBlock | apply WK.retSeq | apply WK.retBlock | apply WK.exitSeq | apply WK.exitHere | refine WK.exitOn rfl ?_ | ((first | (refine WK.rgn ?_ ?_; kernel_rfl) | refine AtCall.now ?_); simp (config := { maxSteps := 1000000 }) only [SS, forall_const, wx, tguard, acallee, top, tval, fput, tor, vsh, vbin, tload, tload2, tload3, tidx, tidx2, tfa, tfa2, tlen2, tpick, tbox, one, tbs, tbs2, afill, Go.AM.splice, tap, tap2, tap3, tap4, tsrc, tsrc2, Int.reduceEq, Int.reduceNeg, Nat.reduceGT, Nat.reduceLT, Nat.reduceLeDiff, Nat.reduceEqDiff, ↓reduceIte, reduceCtorEq, Int.reduceToNat, Int.reduceLE, Int.reduceLT, Nat.reduceAdd, Nat.reduceMul, hneg, hi', hb, gc_2, hf, hf0, ff_38]) | (refine WK.condT ?_ ?_; focus (simp only [ev_tmp, ev_const, fset_apply, Nat.reduceEqDiff, ↓reduceIte, decide_true, decide_false, hneg, hi', hb, gc_2, hf, hf0, ff_38]; done)) | (refine WK.condF ?_ ?_; focus (simp only [ev_tmp, ev_const, fset_apply, Nat.reduceEqDiff, ↓reduceIte, decide_true, decide_false, hneg, hi', hb, gc_2, hf, hf0, ff_38]; done)))
    exact WK.retNil (err 13 (by unfold stepS; rw [if_neg (by omega), hd]) _ rfl rfl)
  · obtain ⟨a, ha⟩ : ∃ a, (form.takeWhile neg).length = a := ⟨_, rfl⟩
    have hf : firstS form = (a : Nat) := by unfold firstS; rw [if_neg hd, ha]
    have haf : a < form.length := by
      have h1 : form.takeWhile neg ++ form.dropWhile neg = form := List.takeWhile_append_dropWhile
      have h2 := congrArg List.length h1
      rw [List.length_append, ha] at h2
      have h3 : (form.dropWhile neg).length ≠ 0 := by simpa using hd
      omega
    have hfa : ((a : Int) < 0) = False := by simp
    have key : ∀ (t d : List Int), t ++ d = form → t.length = a → t = form.take a ∧ d = form.drop a := by
      rintro t d rfl rfl
      simp
    obtain ⟨htw, hdw⟩ := key _ _ List.takeWhile_append_dropWhile ha
    rw [List.drop_eq_getElem_cons haf] at hdw
    have hst : stepS g form (i : Nat) = if g.rules[i].left = form[a] then (form.take a ++ g.rules[i].right ++ form.drop (a + 1), 0) else ([], 14) := by
      unfold stepS
      rw [if_neg (by omega), hdw, htw]
      simp only [Int.toNat_natCast, List.getElem?_eq_getElem hi]
    obtain ⟨z, kz, cs, ty, own, q, e0, hz, d0, d1, d2, hq⟩ := hr.atS hi
    subst e0
    obtain ⟨x, kx, ds, tx, ox, rfl, hx, ex⟩ := hp.at haf
    by_cases hle : g.rules[i].left = form[a]
    · have hrr := (ok.rule i hi).len
      rw [if_pos hle] at hst
      repeat (first | apply WK.seq | apply WK.block | apply WK.skipSeq | apply WK.skipBlock | apply WK.retSeq | apply WK.retBlock | apply WK.exitSeq | apply WK.exitHere | refine WK.exitOn rfl ?_ | ((first | (refine WK.rgn ?_ ?_; kernel_rfl) | refine AtCall.now ?_); simp (config := { maxSteps := 1000000 }) only [SS, forall_const, wx, tguard, acallee, top, tval, fput, tor, vsh, vbin, tload, tload2, tload3, tidx, tidx2, tfa, tfa2, tlen2, tpick, tbox, one, tbs, tbs2, afill, Go.AM.splice, tap, tap2, tap3, tap4, tsrc, tsrc2, Int.reduceEq, Int.reduceNeg, Nat.reduceGT, Nat.reduceLT, Nat.reduceLeDiff, Nat.reduceEqDiff, ↓reduceIte, reduceCtorEq, Int.reduceToNat, Int.reduceLE, Int.reduceLT, Nat.reduceAdd, Nat.reduceMul, hneg, hi, hi', hb, gc_2, hf, hfa, hz, d0, haf, hx, ex, hle, ebs_35_0, ff_38]) | (refine WK.condT ?_ ?_; focus (simp only [ev_tmp, ev_const, fset_apply, Nat.reduceEqDiff, ↓reduceIte, decide_true, decide_false, hneg, hi, hi', hb, gc_2, hf, hfa, hz, d0, haf, hx, ex, hle, ebs_35_0, ff_38]; done)) | (refine WK.condF ?_ ?_; focus (simp only [ev_tmp, ev_const, fset_apply, Nat.reduceEqDiff, ↓reduceIte, decide_true, decide_false, hneg, hi, hi', hb, gc_2, hf, hfa, hz, d0, haf, hx, ex, hle, ebs_35_0, ff_38]; done)))
      refine WK.loop (fun k s => ∃ (j Y : Nat), Kp (n + 1) H2 s.n s.H ∧ s.f 1 = .slice (some ⟨x, kx, none⟩) form.length form.length ∧ s.f 2 = .int .i64 (i : Nat) ∧ s.f 3 = .pointer (some ⟨n, 0, none⟩) ∧ s.f 8 = .int .i64 (a : Nat) ∧ s.f 9 = .slice (some ⟨Y, 0, none⟩) (outAt form g.rules[i].right a j).length (outAt form g.rules[i].right a j).length ∧ n + 1 ≤ Y ∧ s.H Y = .cells ((outAt form g.rules[i].right a j).map (Value.int .i64)) 3 true ∧
          s.f 10 = .int .i64 (j : Nat) ∧ j ≤ form.length ∧ k = form.length - j) form.length ?_ ?_
      · refine ⟨0, n + 1, Kp.new _ _ _, rfl, rfl, rfl, rfl, ?_, Nat.le_refl _, ?_, rfl, Nat.zero_le _, rfl⟩
        · simp only [packed, fset_apply, Nat.reduceEqDiff, ↓reduceIte, List.getD_cons_zero, List.getD_cons_succ, ff_38]
          rfl
        · exact hset_at _ _ _
      rintro kk ⟨f, n4, H4⟩ ⟨j, Y, kp, f1, f2, f3, f8, f9, hY, hy, f10, hj, rfl⟩ ih
      simp only at f1 f2 f3 f8 f9 f10 ih kp hy
      have hw4 := kp.wf hw1
      have hYl := live_lt hw4 (live_of hy)
      by_cases hjl : j < form.length
      · have hjw : IntKind.i64.wrap ((j : Int) + 1) = ((j + 1 : Nat) : Int) := by rw [wrap_in (by omega) (by omega)]; rfl
        have hol := outAt_len (right := g.rules[i].right) (a := a) (Nat.le_of_lt hjl)
        have a3 : ((outAt form g.rules[i].right a j).map (Value.int .i64)).take (outAt form g.rules[i].right a j).length = (outAt form g.rules[i].right a j).map (Value.int .i64) := List.take_of_length_le (by simp)
        by_cases hja : j = a
        · subst hja
          have b4 := (kp.keep n (by omega)).trans hb
          have zl := live_lt hw1 (live_of hz)
          have z4 := (kp.keep z zl).trans hz
          have b3 : (outAt form g.rules[i].right j j).length + g.rules[i].right.length ≤ bigN := by unfold bigN; omega
          rcases hq with ⟨rfl, hq⟩ | ⟨w, kw, es, tw, ow, rfl, hw', hwl, hwe⟩
          · have b3' : (outAt form g.rules[i].right j j).length ≤ bigN := by omega
            rw [hq] at d1
            have hr0 : outAt form g.rules[i].right j (j + 1) = outAt form g.rules[i].right j j := by rw [outAt_right haf, hq, List.append_nil]
            repeat (first | apply WK.seq | apply WK.block | apply WK.skipSeq | apply WK.skipBlock | apply WK.retSeq | apply WK.retBlock | apply WK.exitSeq | apply WK.exitHere | refine WK.exitOn rfl ?_ | ((first | (refine WK.rgn ?_ ?_; kernel_rfl) | refine AtCall.now ?_); simp (config := { maxSteps := 1000000 }) only [SS, forall_const, wx, tguard, acallee, top, tval, fput, tor, vsh, vbin, tload, tload2, tload3, tidx, tidx2, tfa, tfa2, tlen2, tpick, tbox, one, tbs, tbs2, afill, Go.AM.splice, tap, tap2, tap3, tap4, tsrc, tsrc2, Int.reduceEq, Int.reduceNeg, Nat.reduceGT, Nat.reduceLT, Nat.reduceLeDiff, Nat.reduceEqDiff, ↓reduceIte, reduceCtorEq, Int.reduceToNat, Int.reduceLE, Int.reduceLT, Nat.reduceAdd, Nat.reduceMul, f1, f2, f3, f8, f9, f10, hjl, b4, gc_2, z4, hi, d1, hy, a3, b3', List.length_map, List.drop_zero, List.contains_nil, ff_38]) | (refine WK.condT ?_ ?_; focus (simp only [ev_tmp, ev_const, fset_apply, Nat.reduceEqDiff, ↓reduceIte, decide_true, decide_false, f1, f2, f3, f8, f9, f10, hjl, b4, gc_2, z4, hi, d1, hy, a3, b3', List.length_map, List.drop_zero, List.contains_nil, ff_38]; done)) | (refine WK.condF ?_ ?_; focus (simp only [ev_tmp, ev_const, fset_apply, Nat.reduceEqDiff, ↓reduceIte, decide_true, decide_false, f1, f2, f3, f8, f9, f10, hjl, b4, gc_2, z4, hi, d1, hy, a3, b3', List.length_map, List.drop_zero, List.contains_nil, ff_38]; done)))
            refine ih (form.length - (j + 1)) (by omega) _ ⟨j + 1, n4, (kp.set _ hY hYl).trans (Kp.new n4 _ _), f1, f2, f3, f8, ?_, kp.le, ?_, ?_, hjl, rfl⟩
            · simp only [packed, fset_apply, Nat.reduceEqDiff, ↓reduceIte, List.getD_cons_zero, List.getD_cons_succ, hr0, ff_38]
            · rw [hr0]
              exact hset_at _ _ _
            · simp only [packed, fset_apply, Nat.reduceEqDiff, ↓reduceIte, List.getD_cons_zero, List.getD_cons_succ, f10, hjw, ff_38]
          · have w4 := (kp.keep w (live_lt hw1 (live_of hw'))).trans hw'
            have hcs := RS.cells hwl hwe
            have hwY : [w].contains Y = false := by have := live_lt hw1 (live_of hw'); simp; omega
            repeat (first | apply WK.seq | apply WK.block | apply WK.skipSeq | apply WK.skipBlock | apply WK.retSeq | apply WK.retBlock | apply WK.exitSeq | apply WK.exitHere | refine WK.exitOn rfl ?_ | ((first | (refine WK.rgn ?_ ?_; kernel_rfl) | refine AtCall.now ?_); simp (config := { maxSteps := 1000000 }) only [SS, forall_const, wx, tguard, acallee, top, tval, fput, tor, vsh, vbin, tload, tload2, tload3, tidx, tidx2, tfa, tfa2, tlen2, tpick, tbox, one, tbs, tbs2, afill, Go.AM.splice, tap, tap2, tap3, tap4, tsrc, tsrc2, Int.reduceEq, Int.reduceNeg, Nat.reduceGT, Nat.reduceLT, Nat.reduceLeDiff, Nat.reduceEqDiff, ↓reduceIte, reduceCtorEq, Int.reduceToNat, Int.reduceLE, Int.reduceLT, Nat.reduceAdd, Nat.reduceMul, f1, f2, f3, f8, f9, f10, hjl, b4, gc_2, z4, hi, d1, hy, a3, b3, w4, hcs, hwl, hwY, List.length_map, List.drop_zero, ff_38]) | (refine WK.condT ?_ ?_; focus (simp only [ev_tmp, ev_const, fset_apply, Nat.reduceEqDiff, ↓reduceIte, decide_true, decide_false, f1, f2, f3, f8, f9, f10, hjl, b4, gc_2, z4, hi, d1, hy, a3, b3, w4, hcs, hwl, hwY, List.length_map, List.drop_zero, ff_38]; done)) | (refine WK.condF ?_ ?_; focus (simp only [ev_tmp, ev_const, fset_apply, Nat.reduceEqDiff, ↓reduceIte, decide_true, decide_false, f1, f2, f3, f8, f9, f10, hjl, b4, gc_2, z4, hi, d1, hy, a3, b3, w4, hcs, hwl, hwY, List.length_map, List.drop_zero, ff_38]; done)))
            refine ih (form.length - (j + 1)) (by omega) _ ⟨j + 1, n4, (kp.set _ hY hYl).trans (Kp.new n4 _ _), f1, f2, f3, f8, ?_, kp.le, ?_, ?_, hjl, rfl⟩
            · simp only [packed, fset_apply, Nat.reduceEqDiff, ↓reduceIte, List.getD_cons_zero, List.getD_cons_succ, ff_38]
              rw [outAt_right haf, List.length_append]
            · rw [outAt_right haf, List.map_append]
              exact hset_at _ _ _
            · simp only [packed, fset_apply, Nat.reduceEqDiff, ↓reduceIte, List.getD_cons_zero, List.getD_cons_succ, f10, hjw, ff_38]
        · obtain ⟨x', kx', ds', tx', ox', e0', hx', ex'⟩ := hp.at hjl
          cases e0'
          rw [hx] at hx'
          cases hx'
          have x4 := (kp.keep x (live_lt hw1 (live_of hx))).trans hx
          have hja' : ((j : Int) = a) = False := by simp; omega
          have c1 : ∀ o, hset H4 n4 o Y = _ := fun o => (hset_ne _ _ _ (by omega)).trans hy
          have c2 : [n4].contains Y = false := by simp; omega
          have c3 : (outAt form g.rules[i].right a j).length + 1 ≤ bigN := by unfold bigN; omega
          repeat (first | apply WK.seq | apply WK.block | apply WK.skipSeq | apply WK.skipBlock | apply WK.retSeq | apply WK.retBlock | apply WK.exitSeq | apply WK.exitHere | refine WK.exitOn rfl ?_ | ((first | (refine WK.rgn ?_ ?_; kernel_rfl) | refine AtCall.now ?_); simp (config := { maxSteps := 1000000 }) only [SS, forall_const, wx, tguard, acallee, top, tval, fput, tor, vsh, vbin, tload, tload2, tload3, tidx, tidx2, tfa, tfa2, tlen2, tpick, tbox, one, tbs, tbs2, afill, Go.AM.splice, tap, tap2, tap3, tap4, tsrc, tsrc2, Int.reduceEq, Int.reduceNeg, Nat.reduceGT, Nat.reduceLT, Nat.reduceLeDiff, Nat.reduceEqDiff, ↓reduceIte, reduceCtorEq, Int.reduceToNat, Int.reduceLE, Int.reduceLT, Nat.reduceAdd, Nat.reduceMul, f1, f8, f9, f10, hjl, hja, hja', x4, ex', c1, c2, c3, a3, ebs_35_1, List.length_map, List.drop_zero, ff_38]) | (refine WK.condT ?_ ?_; focus (simp only [ev_tmp, ev_const, fset_apply, Nat.reduceEqDiff, ↓reduceIte, decide_true, decide_false, f1, f8, f9, f10, hjl, hja, hja', x4, ex', c1, c2, c3, a3, ebs_35_1, List.length_map, List.drop_zero, ff_38]; done)) | (refine WK.condF ?_ ?_; focus (simp only [ev_tmp, ev_const, fset_apply, Nat.reduceEqDiff, ↓reduceIte, decide_true, decide_false, f1, f8, f9, f10, hjl, hja, hja', x4, ex', c1, c2, c3, a3, ebs_35_1, List.length_map, List.drop_zero, ff_38]; done)))
          refine ih (form.length - (j + 1)) (by omega) _ ⟨j + 1, n4 + 1, ((kp.trans (Kp.new n4 H4 _)).set _ hY (by omega)).trans (Kp.new (n4 + 1) _ _), f1, f2, f3, f8, ?_, by have := kp.le; omega, ?_, ?_, hjl, rfl⟩
          · simp only [packed, fset_apply, Nat.reduceEqDiff, ↓reduceIte, List.getD_cons_zero, List.getD_cons_succ, ff_38]
            rw [outAt_copy hjl hja haf, List.length_append]
            rfl
          · rw [outAt_copy hjl hja haf, List.map_append]
            exact hset_at _ _ _
          · simp only [packed, fset_apply, Nat.reduceEqDiff, ↓reduceIte, List.getD_cons_zero, List.getD_cons_succ, f10, hjw, ff_38]
      · have hje : j = form.length := by omega
        subst hje
        repeat (first | apply WK.seq | apply WK.block | apply WK.skipSeq | apply WK.skipBlock | apply WK.retSeq | apply WK.retBlock | apply WK.exitSeq | apply WK.exitHere | refine WK.exitOn rfl ?_ | ((first | (refine WK.rgn ?_ ?_; kernel_rfl) | refine AtCall.now ?_); simp (config := { maxSteps := 1000000 }) only [SS, forall_const, wx, tguard, acallee, top, tval, fput, tor, vsh, vbin, tload, tload2, tload3, tidx, tidx2, tfa, tfa2, tlen2, tpick, tbox, one, tbs, tbs2, afill, Go.AM.splice, tap, tap2, tap3, tap4, tsrc, tsrc2, Int.reduceEq, Int.reduceNeg, Nat.reduceGT, Nat.reduceLT, Nat.reduceLeDiff, Nat.reduceEqDiff, ↓reduceIte, reduceCtorEq, Int.reduceToNat, Int.reduceLE, Int.reduceLT, Nat.reduceAdd, Nat.reduceMul, f1, f9, f10, hjl, ff_38]) | (refine WK.condT ?_ ?_; focus (simp only [ev_tmp, ev_const, fset_apply, Nat.reduceEqDiff, ↓reduceIte, decide_true, decide_false, f1, f9, f10, hjl, ff_38]; done)) | (refine WK.condF ?_ ?_; focus (simp only [ev_tmp, ev_const, fset_apply, Nat.reduceEqDiff, ↓reduceIte, decide_true, decide_false, f1, f9, f10, hjl, ff_38]; done)))
        (first | refine WK.retNil ⟨Or.inr rfl, _, rfl, ?_, ?_⟩ | refine WK.skipNil ⟨Or.inl rfl, _, rfl, ?_, ?_⟩)
        · exact fun y hy => (kp.keep y (by omega)).trans (hk.keep y hy)
        · simp only [packed, fset_apply, Nat.reduceEqDiff, ↓reduceIte, List.getD_cons_zero, List.getD_cons_succ, ff_38]
          rw [outAt_all haf] at hy f9 ⊢
          refine ⟨some ⟨Y, 0, none⟩, ?_, ?_⟩
          · rw [hst]; rfl
          · rw [hst]
            exact .inr ⟨Y, 0, _, _, _, rfl, hy, by rw [List.length_map, Nat.zero_add]; exact Nat.le_refl _, fun q y e => by rw [Nat.zero_add, List.getElem?_map, e]; rfl⟩
    · rw [if_neg hle] at hst
      repeat (first | apply WK.seq | apply WK.block | apply WK.skipSeq | apply WK.skipBlock | apply WK.retSeq | apply WK.retBlock | apply WK.exitSeq | apply WK.exitHere | refine WK.exitOn rfl ?_ | ((first | (refine WK.rgn ?_ ?_; kernel_rfl) | refine AtCall.now ?_); simp (config := { maxSteps := 1000000 }) only [SS, forall_const, wx, tguard, acallee, top, tval, fput, tor, vsh, vbin, tload, tload2, tload3, tidx, tidx2, tfa, tfa2, tlen2, tpick, tbox, one, tbs, tbs2, afill, Go.AM.splice, tap, tap2, tap3, tap4, tsrc, tsrc2, Int.reduceEq, Int.reduceNeg, Nat.reduceGT, Nat.reduceLT, Nat.reduceLeDiff, Nat.reduceEqDiff, ↓reduceIte, reduceCtorEq, Int.reduceToNat, Int.reduceLE, Int.reduceLT, Nat.reduceAdd, Nat.reduceMul, hneg, hi, hi', hb, gc_2, hf, hfa, hz, d0, haf, hx, ex, hle, ff_38]) | (refine WK.condT ?_ ?_; focus (simp only [ev_tmp, ev_const, fset_apply, Nat.reduceEqDiff, ↓reduceIte, decide_true, decide_false, hneg, hi, hi', hb, gc_2, hf, hfa, hz, d0, haf, hx, ex, hle, ff_38]; done)) | (refine WK.condF ?_ ?_; focus (simp only [ev_tmp, ev_const, fset_apply, Nat.reduceEqDiff, ↓reduceIte, decide_true, decide_false, hneg, hi, hi', hb, gc_2, hf, hfa, hz, d0, haf, hx, ex, hle, ff_38]; done)))
      exact WK.retNil (err 14 hst _ rfl rfl)
end Go.Proofs.Ytplnndgdklfnfaa
