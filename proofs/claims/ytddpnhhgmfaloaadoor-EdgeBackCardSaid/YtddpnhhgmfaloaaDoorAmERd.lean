/- A part of a proof. Its conditions: none. -/
import Derived.Test.YtddpnhhgmfaloaaDoorAmETxt
set_option linter.all false
namespace Go.Proofs.YtddpnhhgmfaloaaDoor
open Go.AM Ieee
set_option maxRecDepth 100000

theorem key_lt_irr (b : Nat) (hb : b < 18446744073709551616) : sameB b b = true := by
  unfold sameB
  rw [less_key hb hb]
  simp

/-- The three texts that are no numbers. -/
def spec3 (l : List UInt8) : Option (Nat) := if l = [110, 97, 110] then some 9221120237041090561 else if l = [105, 110, 102] then some 9218868437227405312 else if l = [45, 105, 110, 102] then some 18442240474082181120 else none
def rdF (l : List UInt8) : Nat := match spec3 l with | some w => w | none => if okE l then fwE l else 0
def rdO (l : List UInt8) : Bool := match spec3 l with | some _ => true | none => okE l

theorem ne1 : ([105, 110, 102] : List UInt8) ≠ [110, 97, 110] := by decide
theorem spec3_cases (l : List UInt8) : (l = [110, 97, 110] ∧ rdF l = 9221120237041090561 ∧ rdO l = true) ∨ (l = [105, 110, 102] ∧ rdF l = 9218868437227405312 ∧ rdO l = true) ∨ (l = [45, 105, 110, 102] ∧ rdF l = 18442240474082181120 ∧ rdO l = true) ∨
    (l ≠ [110, 97, 110] ∧ l ≠ [105, 110, 102] ∧ l ≠ [45, 105, 110, 102] ∧ rdF l = (if okE l then fwE l else 0) ∧ rdO l = okE l) := by
  by_cases h1 : l = [110, 97, 110]
  · subst h1; exact .inl ⟨rfl, rfl, rfl⟩
  by_cases h2 : l = [105, 110, 102]
  · subst h2; exact .inr (.inl ⟨rfl, rfl, rfl⟩)
  by_cases h3 : l = [45, 105, 110, 102]
  · subst h3; exact .inr (.inr (.inl ⟨rfl, rfl, rfl⟩))
  · have : spec3 l = none := by unfold spec3; rw [if_neg h1, if_neg h2, if_neg h3]
    refine .inr (.inr (.inr ⟨h1, h2, h3, ?_, ?_⟩))
    · unfold rdF; rw [this]
    · unfold rdO; rw [this]

set_option maxHeartbeats 2000000 in
theorem readall_gives (l : List UInt8) (hl : l.length ≤ 40) (n : Nat) (H : Heap) : Gives Tryd.prog 20 [.string (BA l)] n H fun v n' H' => v = .tuple #[.float .f64 (rdF l), .bool (rdO l)] ∧ n' = n ∧ H' = H := by
  rcases spec3_cases l with ⟨rfl, e1, e2⟩ | ⟨rfl, e1, e2⟩ | ⟨rfl, e1, e2⟩ | ⟨h1, h2, h3, e1, e2⟩ <;> rw [e1, e2]
  · refine Gives.of orders ok20 (Nat.le_of_ble_eq_true rfl) ?_
-- function 20
    have z1 : (([110, 97, 110] : List UInt8) == [110, 97, 110]) = true := rfl
    repeat (first | apply WK.seq | apply WK.block | apply WK.skipSeq | apply WK.skipBlock | apply WK.retSeq | apply WK.retBlock | apply WK.exitSeq | apply WK.exitHere | refine WK.exitOn rfl ?_ | ((first | (refine WK.rgn ?_ ?_; kernel_rfl) | refine AtCall.now ?_); simp (config := { maxSteps := 1000000 }) only [SS, forall_const, wx, tguard, acallee, top, tval, fput, tor, vsh, vbin, vun, tlen2, tpick, textr, tix, tix1, tix2, Int.reduceEq, Int.reduceNeg, Nat.reduceGT, Nat.reduceLT, Nat.reduceLeDiff, Nat.reduceEqDiff, ↓reduceIte, reduceCtorEq, Int.reduceToNat, Int.reduceLE, Int.reduceLT, Nat.reduceAdd, Nat.reduceMul, BAS, ba_list, z1, ff_20]) | (refine WK.condT ?_ ?_; focus (simp only [ev_tmp, ev_const, fset_apply, Nat.reduceEqDiff, ↓reduceIte, decide_true, decide_false, BAS, ba_list, z1, ff_20]; done)) | (refine WK.condF ?_ ?_; focus (simp only [ev_tmp, ev_const, fset_apply, Nat.reduceEqDiff, ↓reduceIte, decide_true, decide_false, BAS, ba_list, z1, ff_20]; done)))
    refine AtCall.by (mathnan_gives _ _) ?_
    rintro v n' H' hk ⟨rfl, rfl, rfl⟩
    simp (config := { maxSteps := 1000000 }) only [SS, forall_const, wx, tguard, acallee, top, tval, fput, tor, vsh, vbin, vun, tlen2, tpick, textr, tix, tix1, tix2, Int.reduceEq, Int.reduceNeg, Nat.reduceGT, Nat.reduceLT, Nat.reduceLeDiff, Nat.reduceEqDiff, ↓reduceIte, reduceCtorEq, Int.reduceToNat, Int.reduceLE, Int.reduceLT, Nat.reduceAdd, Nat.reduceMul, ff_20]
    repeat (first | apply WK.seq | apply WK.block | apply WK.skipSeq | apply WK.skipBlock | apply WK.retSeq | apply WK.retBlock | apply WK.exitSeq | apply WK.exitHere | refine WK.exitOn rfl ?_ | ((first | (refine WK.rgn ?_ ?_; kernel_rfl) | refine AtCall.now ?_); simp (config := { maxSteps := 1000000 }) only [SS, forall_const, wx, tguard, acallee, top, tval, fput, tor, vsh, vbin, vun, tlen2, tpick, textr, tix, tix1, tix2, Int.reduceEq, Int.reduceNeg, Nat.reduceGT, Nat.reduceLT, Nat.reduceLeDiff, Nat.reduceEqDiff, ↓reduceIte, reduceCtorEq, Int.reduceToNat, Int.reduceLE, Int.reduceLT, Nat.reduceAdd, Nat.reduceMul, ff_20]) | (refine WK.condT ?_ ?_; focus (simp only [ev_tmp, ev_const, fset_apply, Nat.reduceEqDiff, ↓reduceIte, decide_true, decide_false, ff_20]; done)) | (refine WK.condF ?_ ?_; focus (simp only [ev_tmp, ev_const, fset_apply, Nat.reduceEqDiff, ↓reduceIte, decide_true, decide_false, ff_20]; done)))
    (first | refine WK.retNil ⟨Or.inr rfl, _, rfl, ?_, ?_⟩ | refine WK.skipNil ⟨Or.inl rfl, _, rfl, ?_, ?_⟩)
    · exact fun _ _ => rfl
    · simp only [packed, fset_apply, Nat.reduceEqDiff, ↓reduceIte, List.getD_cons_zero, List.getD_cons_succ, ff_20]
      first | exact ⟨rfl, trivial, trivial⟩ | exact ⟨trivial, trivial, trivial⟩
  · refine Gives.of orders ok20 (Nat.le_of_ble_eq_true rfl) ?_
-- function 20
    have z1 : (([105, 110, 102] : List UInt8) == [110, 97, 110]) = false := rfl
    have z2 : (([105, 110, 102] : List UInt8) == [105, 110, 102]) = true := rfl
    repeat (first | apply WK.seq | apply WK.block | apply WK.skipSeq | apply WK.skipBlock | apply WK.retSeq | apply WK.retBlock | apply WK.exitSeq | apply WK.exitHere | refine WK.exitOn rfl ?_ | ((first | (refine WK.rgn ?_ ?_; kernel_rfl) | refine AtCall.now ?_); simp (config := { maxSteps := 1000000 }) only [SS, forall_const, wx, tguard, acallee, top, tval, fput, tor, vsh, vbin, vun, tlen2, tpick, textr, tix, tix1, tix2, Int.reduceEq, Int.reduceNeg, Nat.reduceGT, Nat.reduceLT, Nat.reduceLeDiff, Nat.reduceEqDiff, ↓reduceIte, reduceCtorEq, Int.reduceToNat, Int.reduceLE, Int.reduceLT, Nat.reduceAdd, Nat.reduceMul, BAS, ba_list, z1, z2, ff_20]) | (refine WK.condT ?_ ?_; focus (simp only [ev_tmp, ev_const, fset_apply, Nat.reduceEqDiff, ↓reduceIte, decide_true, decide_false, BAS, ba_list, z1, z2, ff_20]; done)) | (refine WK.condF ?_ ?_; focus (simp only [ev_tmp, ev_const, fset_apply, Nat.reduceEqDiff, ↓reduceIte, decide_true, decide_false, BAS, ba_list, z1, z2, ff_20]; done)))
    refine AtCall.by (inf1_gives _ _) ?_
    rintro v n' H' hk ⟨rfl, rfl, rfl⟩
    simp (config := { maxSteps := 1000000 }) only [SS, forall_const, wx, tguard, acallee, top, tval, fput, tor, vsh, vbin, vun, tlen2, tpick, textr, tix, tix1, tix2, Int.reduceEq, Int.reduceNeg, Nat.reduceGT, Nat.reduceLT, Nat.reduceLeDiff, Nat.reduceEqDiff, ↓reduceIte, reduceCtorEq, Int.reduceToNat, Int.reduceLE, Int.reduceLT, Nat.reduceAdd, Nat.reduceMul, ff_20]
    repeat (first | apply WK.seq | apply WK.block | apply WK.skipSeq | apply WK.skipBlock | apply WK.retSeq | apply WK.retBlock | apply WK.exitSeq | apply WK.exitHere | refine WK.exitOn rfl ?_ | ((first | (refine WK.rgn ?_ ?_; kernel_rfl) | refine AtCall.now ?_); simp (config := { maxSteps := 1000000 }) only [SS, forall_const, wx, tguard, acallee, top, tval, fput, tor, vsh, vbin, vun, tlen2, tpick, textr, tix, tix1, tix2, Int.reduceEq, Int.reduceNeg, Nat.reduceGT, Nat.reduceLT, Nat.reduceLeDiff, Nat.reduceEqDiff, ↓reduceIte, reduceCtorEq, Int.reduceToNat, Int.reduceLE, Int.reduceLT, Nat.reduceAdd, Nat.reduceMul, ff_20]) | (refine WK.condT ?_ ?_; focus (simp only [ev_tmp, ev_const, fset_apply, Nat.reduceEqDiff, ↓reduceIte, decide_true, decide_false, ff_20]; done)) | (refine WK.condF ?_ ?_; focus (simp only [ev_tmp, ev_const, fset_apply, Nat.reduceEqDiff, ↓reduceIte, decide_true, decide_false, ff_20]; done)))
    (first | refine WK.retNil ⟨Or.inr rfl, _, rfl, ?_, ?_⟩ | refine WK.skipNil ⟨Or.inl rfl, _, rfl, ?_, ?_⟩)
    · exact fun _ _ => rfl
    · simp only [packed, fset_apply, Nat.reduceEqDiff, ↓reduceIte, List.getD_cons_zero, List.getD_cons_succ, ff_20]
      first | exact ⟨rfl, trivial, trivial⟩ | exact ⟨trivial, trivial, trivial⟩
  · refine Gives.of orders ok20 (Nat.le_of_ble_eq_true rfl) ?_
-- function 20
    have z1 : (([45, 105, 110, 102] : List UInt8) == [110, 97, 110]) = false := rfl
    have z2 : (([45, 105, 110, 102] : List UInt8) == [105, 110, 102]) = false := rfl
    have z3 : (([45, 105, 110, 102] : List UInt8) == [45, 105, 110, 102]) = true := rfl
    repeat (first | apply WK.seq | apply WK.block | apply WK.skipSeq | apply WK.skipBlock | apply WK.retSeq | apply WK.retBlock | apply WK.exitSeq | apply WK.exitHere | refine WK.exitOn rfl ?_ | ((first | (refine WK.rgn ?_ ?_; kernel_rfl) | refine AtCall.now ?_); simp (config := { maxSteps := 1000000 }) only [SS, forall_const, wx, tguard, acallee, top, tval, fput, tor, vsh, vbin, vun, tlen2, tpick, textr, tix, tix1, tix2, Int.reduceEq, Int.reduceNeg, Nat.reduceGT, Nat.reduceLT, Nat.reduceLeDiff, Nat.reduceEqDiff, ↓reduceIte, reduceCtorEq, Int.reduceToNat, Int.reduceLE, Int.reduceLT, Nat.reduceAdd, Nat.reduceMul, BAS, ba_list, z1, z2, z3, ff_20]) | (refine WK.condT ?_ ?_; focus (simp only [ev_tmp, ev_const, fset_apply, Nat.reduceEqDiff, ↓reduceIte, decide_true, decide_false, BAS, ba_list, z1, z2, z3, ff_20]; done)) | (refine WK.condF ?_ ?_; focus (simp only [ev_tmp, ev_const, fset_apply, Nat.reduceEqDiff, ↓reduceIte, decide_true, decide_false, BAS, ba_list, z1, z2, z3, ff_20]; done)))
    refine AtCall.by (inf2_gives _ _) ?_
    rintro v n' H' hk ⟨rfl, rfl, rfl⟩
    simp (config := { maxSteps := 1000000 }) only [SS, forall_const, wx, tguard, acallee, top, tval, fput, tor, vsh, vbin, vun, tlen2, tpick, textr, tix, tix1, tix2, Int.reduceEq, Int.reduceNeg, Nat.reduceGT, Nat.reduceLT, Nat.reduceLeDiff, Nat.reduceEqDiff, ↓reduceIte, reduceCtorEq, Int.reduceToNat, Int.reduceLE, Int.reduceLT, Nat.reduceAdd, Nat.reduceMul, ff_20]
    repeat (first | apply WK.seq | apply WK.block | apply WK.skipSeq | apply WK.skipBlock | apply WK.retSeq | apply WK.retBlock | apply WK.exitSeq | apply WK.exitHere | refine WK.exitOn rfl ?_ | ((first | (refine WK.rgn ?_ ?_; kernel_rfl) | refine AtCall.now ?_); simp (config := { maxSteps := 1000000 }) only [SS, forall_const, wx, tguard, acallee, top, tval, fput, tor, vsh, vbin, vun, tlen2, tpick, textr, tix, tix1, tix2, Int.reduceEq, Int.reduceNeg, Nat.reduceGT, Nat.reduceLT, Nat.reduceLeDiff, Nat.reduceEqDiff, ↓reduceIte, reduceCtorEq, Int.reduceToNat, Int.reduceLE, Int.reduceLT, Nat.reduceAdd, Nat.reduceMul, ff_20]) | (refine WK.condT ?_ ?_; focus (simp only [ev_tmp, ev_const, fset_apply, Nat.reduceEqDiff, ↓reduceIte, decide_true, decide_false, ff_20]; done)) | (refine WK.condF ?_ ?_; focus (simp only [ev_tmp, ev_const, fset_apply, Nat.reduceEqDiff, ↓reduceIte, decide_true, decide_false, ff_20]; done)))
    (first | refine WK.retNil ⟨Or.inr rfl, _, rfl, ?_, ?_⟩ | refine WK.skipNil ⟨Or.inl rfl, _, rfl, ?_, ?_⟩)
    · exact fun _ _ => rfl
    · simp only [packed, fset_apply, Nat.reduceEqDiff, ↓reduceIte, List.getD_cons_zero, List.getD_cons_succ, ff_20]
      first | exact ⟨rfl, trivial, trivial⟩ | exact ⟨trivial, trivial, trivial⟩
  · exact read_gives l hl h1 h2 h3 n H

theorem fwE_lt {l : List UInt8} (h : okE l = true) : fwE l < 18446744073709551616 ∧ nanB (fwE l) = false := by
  by_cases h0 : valL (hs l ++ ts l) = 0
  · obtain ⟨e, _⟩ := fwE_zero h h0
    rw [e]; exact ⟨(real_word (by omega) (by omega)).2.1, (real_word (by omega) (by omega)).2.2⟩
  · obtain ⟨M, t, e, hM1, hM2, ht1, ht2, _⟩ := fwE_word h h0
    rw [e]; exact ⟨(real_word (by omega) (by omega)).2.1, (real_word (by omega) (by omega)).2.2⟩
theorem rdF_lt (l : List UInt8) : rdF l < 18446744073709551616 := by
  rcases spec3_cases l with ⟨rfl, e1, e2⟩ | ⟨rfl, e1, e2⟩ | ⟨rfl, e1, e2⟩ | ⟨h1, h2, h3, e1, e2⟩ <;> rw [e1]
  · omega
  · omega
  · omega
  · cases h : okE l with
    | true => rw [if_pos rfl]; exact (fwE_lt h).1
    | false => simp

/-- Text of whatever was read. -/
theorem textall_gives {l : List UInt8} (h : rdO l = true) {n : Nat} {H : Heap} (hw : GH n H) : Gives Tryd.prog 22 [.float .f64 (rdF l)] n H fun v n' H' => v = .string (BA (shortL l)) := by
  have low : ∀ {b : Nat} {s : ByteArray}, (Gives Tryd.prog 22 [.float .f64 b] n H fun v n' H' => v = .string s ∧ n' = n ∧ H' = H) → Gives Tryd.prog 22 [.float .f64 b] n H fun v n' H' => v = .string s := by
    rintro b s ⟨v, n', H', a, c, e, _⟩
    exact ⟨v, n', H', a, c, e⟩
  rcases spec3_cases l with ⟨rfl, e1, e2⟩ | ⟨rfl, e1, e2⟩ | ⟨rfl, e1, e2⟩ | ⟨h1, h2, h3, e1, e2⟩ <;> rw [e1]
  · exact low (text_nan _ (by kernel_rfl) n H)
  · exact low (text_inf n H)
  · exact low (text_ninf n H)
  · rw [e2] at h
    rw [if_pos h]
    exact text_gives h hw

end Go.Proofs.YtddpnhhgmfaloaaDoor
