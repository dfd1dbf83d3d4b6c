/- A part of a proof. Its conditions: none. -/
import Derived.Test.YtddpnhhgmfaloaaGreatDoorAmZRefR
set_option linter.all false
namespace Go.Proofs.YtddpnhhgmfaloaaGreatDoor
open Go.AM Ieee
set_option maxRecDepth 100000

/-- Without the noughts at the end. -/
def trimZ (t : List UInt8) : List UInt8 := (t.reverse.dropWhile (· == 48)).reverse
theorem drop_rep (a : UInt8) (k : Nat) (l : List UInt8) (h : l.head? ≠ some a) : (List.replicate k a ++ l).dropWhile (· == a) = l := by
  induction k with
  | zero =>
    cases l with
    | nil => rfl
    | cons b l =>
      have : (b == a) = false := by simpa using h
      simp [this]
  | succ k ih => simp [List.replicate_succ, ih]
theorem trim_take {t : List UInt8} {r : Nat} (hr : r ≤ t.length) (h1 : ∀ j, r ≤ j → ∀ b, t[j]? = some b → b = 48) (h2 : r = 0 ∨ ∃ b, t[r - 1]? = some b ∧ b ≠ 48) : t.take r = trimZ t := by
  have e : t = t.take r ++ List.replicate (t.length - r) 48 := by
    apply List.ext_getElem?
    intro j
    by_cases hj : j < r
    · rw [List.getElem?_append_left (by rw [List.length_take]; omega), List.getElem?_take, if_pos hj]
    · rw [List.getElem?_append_right (by rw [List.length_take]; omega), List.length_take, Nat.min_eq_left hr]
      by_cases hjl : j < t.length
      · rw [List.getElem?_replicate, if_pos (by omega), List.getElem?_eq_getElem hjl]
        exact congrArg some (h1 j (by omega) _ (List.getElem?_eq_getElem hjl))
      · rw [List.getElem?_eq_none (by omega), List.getElem?_replicate, if_neg (by omega)]
  have e2 : t.reverse = List.replicate (t.length - r) 48 ++ (t.take r).reverse := by
    rw [← List.reverse_replicate, ← List.reverse_append, ← e]
  unfold trimZ
  rw [e2, drop_rep, List.reverse_reverse]
  rw [List.head?_reverse, List.getLast?_eq_getElem?, List.length_take, Nat.min_eq_left hr]
  rcases h2 with h2 | ⟨b, hb, hb48⟩
  · subst h2; simp
  · by_cases h0 : r = 0
    · subst h0; simp
    · rw [List.getElem?_take, if_pos (by omega), hb]
      simpa using hb48

def shortL (l : List UInt8) : List UInt8 := if okE l then (if hasMinus l then [45] else []) ++ hs l ++ (if trimZ (ts l) = [] then [] else 46 :: trimZ (ts l)) else l

set_option maxHeartbeats 8000000 in
theorem short0_gives (l : List UInt8) (hl : l.length ≤ 40) (n : Nat) (H : Heap) :
    Gives Tryz.prog 9 [.string (BA l)] n H fun v n' H' => v = .string (BA (shortL l)) ∧ n' = n ∧ H' = H := by
  refine Gives.of orders ok9 (Nat.le_of_ble_eq_true rfl) ?_
-- function 9
  repeat (first | apply WK.seq | apply WK.block | apply WK.skipSeq | apply WK.skipBlock | apply WK.retSeq | apply WK.retBlock | apply WK.exitSeq | apply WK.exitHere | refine WK.exitOn rfl ?_ | ((first | (refine WK.rgn ?_ ?_; kernel_rfl) | refine AtCall.now ?_); simp (config := { maxSteps := 1000000 }) only [SS, forall_const, wx, tguard, acallee, top, tval, fput, tor, vsh, vbin, vun, tlen2, tpick, textr, tsl, tsl2, tsl3, tsl4, tsl5, Go.AM.bound, tix, tix1, tix2, Int.reduceEq, Int.reduceNeg, Nat.reduceGT, Nat.reduceLT, Nat.reduceLeDiff, Nat.reduceEqDiff, ↓reduceIte, reduceCtorEq, Int.reduceToNat, Int.reduceLE, Int.reduceLT, Nat.reduceAdd, Nat.reduceMul, BAS, ff_9]) | (refine WK.condT ?_ ?_; focus (simp only [ev_tmp, ev_const, fset_apply, Nat.reduceEqDiff, ↓reduceIte, decide_true, decide_false, BAS, ff_9]; done)) | (refine WK.condF ?_ ?_; focus (simp only [ev_tmp, ev_const, fset_apply, Nat.reduceEqDiff, ↓reduceIte, decide_true, decide_false, BAS, ff_9]; done)))
  refine AtCall.by (parts_gives l hl _ _) ?_
  rintro v n' H' hk ⟨rfl, rfl, rfl⟩
  have hpv : partsV l = (if okE l then .tuple #[.bool (hasMinus l), .string (BA (hs l)), .string (BA (ts l)), .bool true] else .tuple #[.bool false, .string (BA []), .string (BA []), .bool false]) := rfl
  cases hok : okE l with
  | false =>
    have hsh : shortL l = l := by unfold shortL; rw [hok, if_neg (by simp)]
    rw [hok, if_neg (by simp)] at hpv
    rw [hpv, hsh]
    simp (config := { maxSteps := 1000000 }) only [SS, forall_const, wx, tguard, acallee, top, tval, fput, tor, vsh, vbin, vun, tlen2, tpick, textr, tsl, tsl2, tsl3, tsl4, tsl5, Go.AM.bound, tix, tix1, tix2, Int.reduceEq, Int.reduceNeg, Nat.reduceGT, Nat.reduceLT, Nat.reduceLeDiff, Nat.reduceEqDiff, ↓reduceIte, reduceCtorEq, Int.reduceToNat, Int.reduceLE, Int.reduceLT, Nat.reduceAdd, Nat.reduceMul, ff_9]
    repeat (first | apply WK.seq | apply WK.block | apply WK.skipSeq | apply WK.skipBlock | apply WK.retSeq | apply WK.retBlock | apply WK.exitSeq | apply WK.exitHere | refine WK.exitOn rfl ?_ | ((first | (refine WK.rgn ?_ ?_; kernel_rfl) | refine AtCall.now ?_); simp (config := { maxSteps := 1000000 }) only [SS, forall_const, wx, tguard, acallee, top, tval, fput, tor, vsh, vbin, vun, tlen2, tpick, textr, tsl, tsl2, tsl3, tsl4, tsl5, Go.AM.bound, tix, tix1, tix2, Int.reduceEq, Int.reduceNeg, Nat.reduceGT, Nat.reduceLT, Nat.reduceLeDiff, Nat.reduceEqDiff, ↓reduceIte, reduceCtorEq, Int.reduceToNat, Int.reduceLE, Int.reduceLT, Nat.reduceAdd, Nat.reduceMul, ff_9]) | (refine WK.condT ?_ ?_; focus (simp only [ev_tmp, ev_const, fset_apply, Nat.reduceEqDiff, ↓reduceIte, decide_true, decide_false, ff_9]; done)) | (refine WK.condF ?_ ?_; focus (simp only [ev_tmp, ev_const, fset_apply, Nat.reduceEqDiff, ↓reduceIte, decide_true, decide_false, ff_9]; done)))
    (first | refine WK.retNil ⟨Or.inr rfl, _, rfl, ?_, ?_⟩ | refine WK.skipNil ⟨Or.inl rfl, _, rfl, ?_, ?_⟩)
    · exact fun _ _ => rfl
    · simp only [packed, fset_apply, Nat.reduceEqDiff, ↓reduceIte, List.getD_cons_zero, List.getD_cons_succ, ff_9]
      first | exact ⟨rfl, trivial, trivial⟩ | exact ⟨trivial, trivial, trivial⟩
  | true =>
    obtain ⟨hda, hd1, hd2, _, hta, htl6, _⟩ := ok_facts hok
    have hsh : shortL l = (if hasMinus l then [45] else []) ++ hs l ++ (if trimZ (ts l) = [] then [] else 46 :: trimZ (ts l)) := by unfold shortL; rw [hok, if_pos rfl]
    rw [hok, if_pos rfl] at hpv
    rw [hpv, hsh]
    generalize hs l = h at *
    generalize ts l = t at *
    generalize hasMinus l = neg at *
    simp (config := { maxSteps := 1000000 }) only [SS, forall_const, wx, tguard, acallee, top, tval, fput, tor, vsh, vbin, vun, tlen2, tpick, textr, tsl, tsl2, tsl3, tsl4, tsl5, Go.AM.bound, tix, tix1, tix2, Int.reduceEq, Int.reduceNeg, Nat.reduceGT, Nat.reduceLT, Nat.reduceLeDiff, Nat.reduceEqDiff, ↓reduceIte, reduceCtorEq, Int.reduceToNat, Int.reduceLE, Int.reduceLT, Nat.reduceAdd, Nat.reduceMul, ff_9]
    repeat (first | apply WK.seq | apply WK.block | apply WK.skipSeq | apply WK.skipBlock | apply WK.retSeq | apply WK.retBlock | apply WK.exitSeq | apply WK.exitHere | refine WK.exitOn rfl ?_ | ((first | (refine WK.rgn ?_ ?_; kernel_rfl) | refine AtCall.now ?_); simp (config := { maxSteps := 1000000 }) only [SS, forall_const, wx, tguard, acallee, top, tval, fput, tor, vsh, vbin, vun, tlen2, tpick, textr, tsl, tsl2, tsl3, tsl4, tsl5, Go.AM.bound, tix, tix1, tix2, Int.reduceEq, Int.reduceNeg, Nat.reduceGT, Nat.reduceLT, Nat.reduceLeDiff, Nat.reduceEqDiff, ↓reduceIte, reduceCtorEq, Int.reduceToNat, Int.reduceLE, Int.reduceLT, Nat.reduceAdd, Nat.reduceMul, ff_9]) | (refine WK.condT ?_ ?_; focus (simp only [ev_tmp, ev_const, fset_apply, Nat.reduceEqDiff, ↓reduceIte, decide_true, decide_false, ff_9]; done)) | (refine WK.condF ?_ ?_; focus (simp only [ev_tmp, ev_const, fset_apply, Nat.reduceEqDiff, ↓reduceIte, decide_true, decide_false, ff_9]; done)))
    refine WK.cutBlock (fun s => s.n = n' ∧ s.H = H' ∧ s.f 3 = .bool neg ∧ s.f 4 = .string (BA h) ∧ s.f 5 = .string (BA (trimZ t))) ?_ ?_
    · refine WK.loop (fun kk s => ∃ i : Nat, i ≤ t.length ∧ (∀ j, i ≤ j → ∀ b, t[j]? = some b → b = 48) ∧ s.n = n' ∧ s.H = H' ∧ s.f 3 = .bool neg ∧ s.f 4 = .string (BA h) ∧ s.f 5 = .string (BA (t.take i)) ∧ kk = i + 1) (t.length + 1) ?_ ?_
      · refine ⟨t.length, Nat.le_refl _, fun j hj b hb => ?_, rfl, rfl, rfl, rfl, ?_, rfl⟩
        · rw [List.getElem?_eq_none hj] at hb; cases hb
        · rw [List.take_length]; rfl
      rintro kk ⟨f, n1, H1⟩ ⟨i, hi1, hz, rfl, rfl, f3, f4, f5, rfl⟩ ih
      simp only at f3 f4 f5 ih
      have hlen : (t.take i).length = i := by rw [List.length_take]; omega
      by_cases hi0 : 0 < i
      · have hi0' : ((0 : Int) < (i : Int)) = True := by simp only [eq_iff_iff, iff_true]; omega
        have hw1 : IntKind.i64.wrap ((i : Int) - 1) = ((i - 1 : Nat) : Int) := by rw [wrap_in (by omega) (by omega)]; omega
        have hg : t[i - 1]? = some t[i - 1] := List.getElem?_eq_getElem (by omega)
        have hgt : (t.take i)[i - 1]? = t[i - 1]? := by rw [List.getElem?_take, if_pos (by omega)]
        have htt : ((t.take i).take (i - 1)).drop 0 = t.take (i - 1) := by
          rw [List.drop_zero, List.take_take, Nat.min_eq_left (by omega)]
        generalize t[i - 1] = b at hg
        have hg2 := hgt.trans hg
        by_cases hb : b = 48
        · have hb' : ((b.toNat : Int) = 48) = True := by rw [hb]; simp
          have hle : i - 1 ≤ i := by omega
          repeat (first | apply WK.seq | apply WK.block | apply WK.skipSeq | apply WK.skipBlock | apply WK.retSeq | apply WK.retBlock | apply WK.exitSeq | apply WK.exitHere | refine WK.exitOn rfl ?_ | ((first | (refine WK.rgn ?_ ?_; kernel_rfl) | refine AtCall.now ?_); simp (config := { maxSteps := 1000000 }) only [SS, forall_const, wx, tguard, acallee, top, tval, fput, tor, vsh, vbin, vun, tlen2, tpick, textr, tsl, tsl2, tsl3, tsl4, tsl5, Go.AM.bound, tix, tix1, tix2, Int.reduceEq, Int.reduceNeg, Nat.reduceGT, Nat.reduceLT, Nat.reduceLeDiff, Nat.reduceEqDiff, ↓reduceIte, reduceCtorEq, Int.reduceToNat, Int.reduceLE, Int.reduceLT, Nat.reduceAdd, Nat.reduceMul, f3, f4, f5, ba_size, hlen, hi0', hi0, hw1, ba_get, hg2, ust, hb', ba_ext, aop_ssl, tss, tss2, sbnd, hle, htt, Nat.zero_le, Int.natCast_nonneg, Int.toNat_natCast, ff_9]) | (refine WK.condT ?_ ?_; focus (simp only [ev_tmp, ev_const, fset_apply, Nat.reduceEqDiff, ↓reduceIte, decide_true, decide_false, f3, f4, f5, ba_size, hlen, hi0', hi0, hw1, ba_get, hg2, ust, hb', ba_ext, aop_ssl, tss, tss2, sbnd, hle, htt, Nat.zero_le, Int.natCast_nonneg, Int.toNat_natCast, ff_9]; done)) | (refine WK.condF ?_ ?_; focus (simp only [ev_tmp, ev_const, fset_apply, Nat.reduceEqDiff, ↓reduceIte, decide_true, decide_false, f3, f4, f5, ba_size, hlen, hi0', hi0, hw1, ba_get, hg2, ust, hb', ba_ext, aop_ssl, tss, tss2, sbnd, hle, htt, Nat.zero_le, Int.natCast_nonneg, Int.toNat_natCast, ff_9]; done)))
          refine ih (i - 1 + 1) (by omega) _ ⟨i - 1, by omega, fun j hj b' hb' => ?_, rfl, rfl, f3, f4, rfl, rfl⟩
          by_cases e : j = i - 1
          · subst e; rw [hg] at hb'; cases hb'; exact hb
          · exact hz j (by omega) b' hb'
        · have hb' : ((b.toNat : Int) = 48) = False := by
            simp only [eq_iff_iff, iff_false]
            intro e; exact hb (UInt8.toNat_inj.1 (by rw [show UInt8.toNat 48 = 48 from rfl]; omega))
          repeat (first | apply WK.seq | apply WK.block | apply WK.skipSeq | apply WK.skipBlock | apply WK.retSeq | apply WK.retBlock | apply WK.exitSeq | apply WK.exitHere | refine WK.exitOn rfl ?_ | ((first | (refine WK.rgn ?_ ?_; kernel_rfl) | refine AtCall.now ?_); simp (config := { maxSteps := 1000000 }) only [SS, forall_const, wx, tguard, acallee, top, tval, fput, tor, vsh, vbin, vun, tlen2, tpick, textr, tsl, tsl2, tsl3, tsl4, tsl5, Go.AM.bound, tix, tix1, tix2, Int.reduceEq, Int.reduceNeg, Nat.reduceGT, Nat.reduceLT, Nat.reduceLeDiff, Nat.reduceEqDiff, ↓reduceIte, reduceCtorEq, Int.reduceToNat, Int.reduceLE, Int.reduceLT, Nat.reduceAdd, Nat.reduceMul, f3, f4, f5, ba_size, hlen, hi0', hi0, hw1, ba_get, hg2, ust, hb', Nat.zero_le, Int.natCast_nonneg, Int.toNat_natCast, ff_9]) | (refine WK.condT ?_ ?_; focus (simp only [ev_tmp, ev_const, fset_apply, Nat.reduceEqDiff, ↓reduceIte, decide_true, decide_false, f3, f4, f5, ba_size, hlen, hi0', hi0, hw1, ba_get, hg2, ust, hb', Nat.zero_le, Int.natCast_nonneg, Int.toNat_natCast, ff_9]; done)) | (refine WK.condF ?_ ?_; focus (simp only [ev_tmp, ev_const, fset_apply, Nat.reduceEqDiff, ↓reduceIte, decide_true, decide_false, f3, f4, f5, ba_size, hlen, hi0', hi0, hw1, ba_get, hg2, ust, hb', Nat.zero_le, Int.natCast_nonneg, Int.toNat_natCast, ff_9]; done)))
          refine WK.skipNil ⟨rfl, rfl, rfl, f3, f4, ?_⟩
          rw [← trim_take hi1 hz (.inr ⟨b, hg, hb⟩)]; exact f5
      · have hi0' : ((0 : Int) < (i : Int)) = False := by simp only [eq_iff_iff, iff_false]; omega
        repeat (first | apply WK.seq | apply WK.block | apply WK.skipSeq | apply WK.skipBlock | apply WK.retSeq | apply WK.retBlock | apply WK.exitSeq | apply WK.exitHere | refine WK.exitOn rfl ?_ | ((first | (refine WK.rgn ?_ ?_; kernel_rfl) | refine AtCall.now ?_); simp (config := { maxSteps := 1000000 }) only [SS, forall_const, wx, tguard, acallee, top, tval, fput, tor, vsh, vbin, vun, tlen2, tpick, textr, tsl, tsl2, tsl3, tsl4, tsl5, Go.AM.bound, tix, tix1, tix2, Int.reduceEq, Int.reduceNeg, Nat.reduceGT, Nat.reduceLT, Nat.reduceLeDiff, Nat.reduceEqDiff, ↓reduceIte, reduceCtorEq, Int.reduceToNat, Int.reduceLE, Int.reduceLT, Nat.reduceAdd, Nat.reduceMul, f3, f4, f5, ba_size, hlen, hi0', hi0, ff_9]) | (refine WK.condT ?_ ?_; focus (simp only [ev_tmp, ev_const, fset_apply, Nat.reduceEqDiff, ↓reduceIte, decide_true, decide_false, f3, f4, f5, ba_size, hlen, hi0', hi0, ff_9]; done)) | (refine WK.condF ?_ ?_; focus (simp only [ev_tmp, ev_const, fset_apply, Nat.reduceEqDiff, ↓reduceIte, decide_true, decide_false, f3, f4, f5, ba_size, hlen, hi0', hi0, ff_9]; done)))
        refine WK.skipNil ⟨rfl, rfl, rfl, f3, f4, ?_⟩
        rw [← trim_take hi1 hz (.inl (by omega))]; exact f5
    rintro ⟨f, n1, H1⟩ ⟨rfl, rfl, f3, f4, f5⟩
    simp only at f3 f4 f5
    have hzl : (trimZ t).length ≤ 6 := by
      unfold trimZ
      rw [List.length_reverse]
      have := List.Sublist.length_le (List.dropWhile_sublist (· == 48) (l := t.reverse))
      rw [List.length_reverse] at this; omega
    generalize trimZ t = z at *
    have mx0 : IntKind.i64.max = 9223372036854775807 := rfl
    have mx1 : ∀ m : Nat, m ≤ 100 → (IntKind.i64.max < (m : Int)) = False := fun m hm => by simp only [eq_iff_iff, iff_false]; omega
    have m1 := mx1 (0 + 1 + h.length) (by omega)
    have m2 := mx1 (h.length + (0 + 1)) (by omega)
    have m3 := mx1 (h.length + 1) (by omega)
    have m4 := mx1 (1 + h.length) (by omega)
    have m5 := mx1 (h.length + 1 + z.length) (by omega)
    have m6 := mx1 (h.length + 1 + 1) (by omega)
    have m7 := mx1 (h.length + 1 + 1 + z.length) (by omega)
    cases z with
    | nil =>
      have zz : (([] : List UInt8) == []) = true := rfl
      cases neg with
      | false =>
        repeat (first | apply WK.seq | apply WK.block | apply WK.skipSeq | apply WK.skipBlock | apply WK.retSeq | apply WK.retBlock | apply WK.exitSeq | apply WK.exitHere | refine WK.exitOn rfl ?_ | ((first | (refine WK.rgn ?_ ?_; kernel_rfl) | refine AtCall.now ?_); simp (config := { maxSteps := 1000000 }) only [SS, forall_const, wx, tguard, acallee, top, tval, fput, tor, vsh, vbin, vun, tlen2, tpick, textr, tsl, tsl2, tsl3, tsl4, tsl5, Go.AM.bound, tix, tix1, tix2, Int.reduceEq, Int.reduceNeg, Nat.reduceGT, Nat.reduceLT, Nat.reduceLeDiff, Nat.reduceEqDiff, ↓reduceIte, reduceCtorEq, Int.reduceToNat, Int.reduceLE, Int.reduceLT, Nat.reduceAdd, Nat.reduceMul, f3, f4, f5, BAS, ba_size, ba_list, ba_app, List.length_append, m1, m2, m3, m4, m5, m6, m7, zz, ff_9]) | (refine WK.condT ?_ ?_; focus (simp only [ev_tmp, ev_const, fset_apply, Nat.reduceEqDiff, ↓reduceIte, decide_true, decide_false, f3, f4, f5, BAS, ba_size, ba_list, ba_app, List.length_append, m1, m2, m3, m4, m5, m6, m7, zz, ff_9]; done)) | (refine WK.condF ?_ ?_; focus (simp only [ev_tmp, ev_const, fset_apply, Nat.reduceEqDiff, ↓reduceIte, decide_true, decide_false, f3, f4, f5, BAS, ba_size, ba_list, ba_app, List.length_append, m1, m2, m3, m4, m5, m6, m7, zz, ff_9]; done)))
        (first | refine WK.retNil ⟨Or.inr rfl, _, rfl, ?_, ?_⟩ | refine WK.skipNil ⟨Or.inl rfl, _, rfl, ?_, ?_⟩)
        · exact fun _ _ => rfl
        · simp only [packed, fset_apply, Nat.reduceEqDiff, ↓reduceIte, List.getD_cons_zero, List.getD_cons_succ, ff_9]
          simp
      | true =>
        have m8 := m1
        have m9 := m1
        repeat (first | apply WK.seq | apply WK.block | apply WK.skipSeq | apply WK.skipBlock | apply WK.retSeq | apply WK.retBlock | apply WK.exitSeq | apply WK.exitHere | refine WK.exitOn rfl ?_ | ((first | (refine WK.rgn ?_ ?_; kernel_rfl) | refine AtCall.now ?_); simp (config := { maxSteps := 1000000 }) only [SS, forall_const, wx, tguard, acallee, top, tval, fput, tor, vsh, vbin, vun, tlen2, tpick, textr, tsl, tsl2, tsl3, tsl4, tsl5, Go.AM.bound, tix, tix1, tix2, Int.reduceEq, Int.reduceNeg, Nat.reduceGT, Nat.reduceLT, Nat.reduceLeDiff, Nat.reduceEqDiff, ↓reduceIte, reduceCtorEq, Int.reduceToNat, Int.reduceLE, Int.reduceLT, Nat.reduceAdd, Nat.reduceMul, f3, f4, f5, BAS, ba_size, ba_list, ba_app, List.length_append, m1, m2, m3, m4, m5, m6, m7, m8, m9, zz, ff_9]) | (refine WK.condT ?_ ?_; focus (simp only [ev_tmp, ev_const, fset_apply, Nat.reduceEqDiff, ↓reduceIte, decide_true, decide_false, f3, f4, f5, BAS, ba_size, ba_list, ba_app, List.length_append, m1, m2, m3, m4, m5, m6, m7, m8, m9, zz, ff_9]; done)) | (refine WK.condF ?_ ?_; focus (simp only [ev_tmp, ev_const, fset_apply, Nat.reduceEqDiff, ↓reduceIte, decide_true, decide_false, f3, f4, f5, BAS, ba_size, ba_list, ba_app, List.length_append, m1, m2, m3, m4, m5, m6, m7, m8, m9, zz, ff_9]; done)))
        (first | refine WK.retNil ⟨Or.inr rfl, _, rfl, ?_, ?_⟩ | refine WK.skipNil ⟨Or.inl rfl, _, rfl, ?_, ?_⟩)
        · exact fun _ _ => rfl
        · simp only [packed, fset_apply, Nat.reduceEqDiff, ↓reduceIte, List.getD_cons_zero, List.getD_cons_succ, ff_9]
          simp
    | cons b z =>
      have zz : ((b :: z) == []) = false := rfl
      have m8 := mx1 (h.length + 1 + (z.length + 1)) (by simp at hzl; omega)
      have m9 := mx1 (h.length + 1 + 1 + (z.length + 1)) (by simp at hzl; omega)
      cases neg with
      | false =>
        repeat (first | apply WK.seq | apply WK.block | apply WK.skipSeq | apply WK.skipBlock | apply WK.retSeq | apply WK.retBlock | apply WK.exitSeq | apply WK.exitHere | refine WK.exitOn rfl ?_ | ((first | (refine WK.rgn ?_ ?_; kernel_rfl) | refine AtCall.now ?_); simp (config := { maxSteps := 1000000 }) only [SS, forall_const, wx, tguard, acallee, top, tval, fput, tor, vsh, vbin, vun, tlen2, tpick, textr, tsl, tsl2, tsl3, tsl4, tsl5, Go.AM.bound, tix, tix1, tix2, Int.reduceEq, Int.reduceNeg, Nat.reduceGT, Nat.reduceLT, Nat.reduceLeDiff, Nat.reduceEqDiff, ↓reduceIte, reduceCtorEq, Int.reduceToNat, Int.reduceLE, Int.reduceLT, Nat.reduceAdd, Nat.reduceMul, f3, f4, f5, BAS, ba_size, ba_list, ba_app, List.length_append, m1, m2, m3, m4, m5, m6, m7, m8, m9, zz, ff_9]) | (refine WK.condT ?_ ?_; focus (simp only [ev_tmp, ev_const, fset_apply, Nat.reduceEqDiff, ↓reduceIte, decide_true, decide_false, f3, f4, f5, BAS, ba_size, ba_list, ba_app, List.length_append, m1, m2, m3, m4, m5, m6, m7, m8, m9, zz, ff_9]; done)) | (refine WK.condF ?_ ?_; focus (simp only [ev_tmp, ev_const, fset_apply, Nat.reduceEqDiff, ↓reduceIte, decide_true, decide_false, f3, f4, f5, BAS, ba_size, ba_list, ba_app, List.length_append, m1, m2, m3, m4, m5, m6, m7, m8, m9, zz, ff_9]; done)))
        (first | refine WK.retNil ⟨Or.inr rfl, _, rfl, ?_, ?_⟩ | refine WK.skipNil ⟨Or.inl rfl, _, rfl, ?_, ?_⟩)
        · exact fun _ _ => rfl
        · simp only [packed, fset_apply, Nat.reduceEqDiff, ↓reduceIte, List.getD_cons_zero, List.getD_cons_succ, ff_9]
          simp
      | true =>
        repeat (first | apply WK.seq | apply WK.block | apply WK.skipSeq | apply WK.skipBlock | apply WK.retSeq | apply WK.retBlock | apply WK.exitSeq | apply WK.exitHere | refine WK.exitOn rfl ?_ | ((first | (refine WK.rgn ?_ ?_; kernel_rfl) | refine AtCall.now ?_); simp (config := { maxSteps := 1000000 }) only [SS, forall_const, wx, tguard, acallee, top, tval, fput, tor, vsh, vbin, vun, tlen2, tpick, textr, tsl, tsl2, tsl3, tsl4, tsl5, Go.AM.bound, tix, tix1, tix2, Int.reduceEq, Int.reduceNeg, Nat.reduceGT, Nat.reduceLT, Nat.reduceLeDiff, Nat.reduceEqDiff, ↓reduceIte, reduceCtorEq, Int.reduceToNat, Int.reduceLE, Int.reduceLT, Nat.reduceAdd, Nat.reduceMul, f3, f4, f5, BAS, ba_size, ba_list, ba_app, List.length_append, m1, m2, m3, m4, m5, m6, m7, m8, m9, zz, ff_9]) | (refine WK.condT ?_ ?_; focus (simp only [ev_tmp, ev_const, fset_apply, Nat.reduceEqDiff, ↓reduceIte, decide_true, decide_false, f3, f4, f5, BAS, ba_size, ba_list, ba_app, List.length_append, m1, m2, m3, m4, m5, m6, m7, m8, m9, zz, ff_9]; done)) | (refine WK.condF ?_ ?_; focus (simp only [ev_tmp, ev_const, fset_apply, Nat.reduceEqDiff, ↓reduceIte, decide_true, decide_false, f3, f4, f5, BAS, ba_size, ba_list, ba_app, List.length_append, m1, m2, m3, m4, m5, m6, m7, m8, m9, zz, ff_9]; done)))
        (first | refine WK.retNil ⟨Or.inr rfl, _, rfl, ?_, ?_⟩ | refine WK.skipNil ⟨Or.inl rfl, _, rfl, ?_, ?_⟩)
        · exact fun _ _ => rfl
        · simp only [packed, fset_apply, Nat.reduceEqDiff, ↓reduceIte, List.getD_cons_zero, List.getD_cons_succ, ff_9]
          simp
end Go.Proofs.YtddpnhhgmfaloaaGreatDoor
