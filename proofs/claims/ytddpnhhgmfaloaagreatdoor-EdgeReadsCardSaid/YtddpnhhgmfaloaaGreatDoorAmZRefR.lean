/- A part of a proof. Its conditions: none. -/
import Derived.Test.YtddpnhhgmfaloaaGreatDoorAmZRef
set_option linter.all false
namespace Go.Proofs.YtddpnhhgmfaloaaGreatDoor
open Go.AM Ieee
set_option maxRecDepth 100000

theorem ok_facts {l : List UInt8} (h : okE l = true) : (hs l).all isD = true ∧ 1 ≤ (hs l).length ∧ (hs l).length ≤ 9 ∧ lead0 (hs l) = false ∧ (ts l).all isD = true ∧ (ts l).length ≤ 6 ∧ (hasDot (cutM l) = true ∧ 1 ≤ (ts l).length ∨ hasDot (cutM l) = false ∧ ts l = []) := by
  unfold okE at h
  simp only [Bool.and_eq_true, Bool.or_eq_true, Bool.not_eq_true'] at h
  obtain ⟨⟨h1, h2⟩, h3⟩ := h
  obtain ⟨a, b, c⟩ := digsB_len (lo := 1) (hi := 9) h1
  refine ⟨a, b, c, h2, ?_⟩
  rcases h3 with h3 | h3
  · have e : ts l = [] := (head_all _ h3).2
    rw [e]
    exact ⟨rfl, Nat.zero_le _, .inr ⟨h3, rfl⟩⟩
  · obtain ⟨d, e, f⟩ := digsB_len (lo := 1) (hi := 6) h3
    refine ⟨d, f, .inl ⟨?_, e⟩⟩
    cases hd : hasDot (cutM l) with
    | true => rfl
    | false =>
      have e' : ts l = [] := (head_all _ hd).2
      rw [e'] at e; simp at e

set_option maxHeartbeats 8000000 in
theorem refread_gives (l : List UInt8) (hl : l.length ≤ 40) (s1 : l ≠ [110, 97, 110]) (s2 : l ≠ [105, 110, 102]) (s3 : l ≠ [45, 105, 110, 102]) (n : Nat) (H : Heap) :
    Gives Tryz.prog 6 [.string (BA l)] n H fun v n' H' => v = .tuple #[.float .f64 (if okE l then fwE l else 0), .bool (okE l)] ∧ n' = n ∧ H' = H := by
  refine Gives.of orders ok6 (Nat.le_of_ble_eq_true rfl) ?_
-- function 6
  have e1 : (l == [110, 97, 110]) = false := by simpa using s1
  have e2 : (l == [105, 110, 102]) = false := by simpa using s2
  have e3 : (l == [45, 105, 110, 102]) = false := by simpa using s3
  repeat (first | apply WK.seq | apply WK.block | apply WK.skipSeq | apply WK.skipBlock | apply WK.retSeq | apply WK.retBlock | apply WK.exitSeq | apply WK.exitHere | refine WK.exitOn rfl ?_ | ((first | (refine WK.rgn ?_ ?_; kernel_rfl) | refine AtCall.now ?_); simp (config := { maxSteps := 1000000 }) only [SS, forall_const, wx, tguard, acallee, top, tval, fput, tor, vsh, vbin, vconv, vun, tlen2, textr, tix, tix1, tix2, Int.reduceEq, Int.reduceNeg, Nat.reduceGT, Nat.reduceLT, Nat.reduceLeDiff, Nat.reduceEqDiff, ↓reduceIte, reduceCtorEq, Int.reduceToNat, Int.reduceLE, Int.reduceLT, Nat.reduceAdd, Nat.reduceMul, BAS, ba_list, e1, e2, e3, ff_6]) | (refine WK.condT ?_ ?_; focus (simp only [ev_tmp, ev_const, fset_apply, Nat.reduceEqDiff, ↓reduceIte, decide_true, decide_false, BAS, ba_list, e1, e2, e3, ff_6]; done)) | (refine WK.condF ?_ ?_; focus (simp only [ev_tmp, ev_const, fset_apply, Nat.reduceEqDiff, ↓reduceIte, decide_true, decide_false, BAS, ba_list, e1, e2, e3, ff_6]; done)))
  refine AtCall.by (parts_gives l hl _ _) ?_
  rintro v n' H' hk ⟨rfl, rfl, rfl⟩
  have hpv : partsV l = (if okE l then .tuple #[.bool (hasMinus l), .string (BA (hs l)), .string (BA (ts l)), .bool true] else .tuple #[.bool false, .string (BA []), .string (BA []), .bool false]) := rfl
  cases hok : okE l with
  | false =>
    rw [hok, if_neg (by simp)] at hpv
    rw [hpv]
    simp (config := { maxSteps := 1000000 }) only [SS, forall_const, wx, tguard, acallee, top, tval, fput, tor, vsh, vbin, vconv, vun, tlen2, textr, tix, tix1, tix2, Int.reduceEq, Int.reduceNeg, Nat.reduceGT, Nat.reduceLT, Nat.reduceLeDiff, Nat.reduceEqDiff, ↓reduceIte, reduceCtorEq, Int.reduceToNat, Int.reduceLE, Int.reduceLT, Nat.reduceAdd, Nat.reduceMul, ff_6]
    repeat (first | apply WK.seq | apply WK.block | apply WK.skipSeq | apply WK.skipBlock | apply WK.retSeq | apply WK.retBlock | apply WK.exitSeq | apply WK.exitHere | refine WK.exitOn rfl ?_ | ((first | (refine WK.rgn ?_ ?_; kernel_rfl) | refine AtCall.now ?_); simp (config := { maxSteps := 1000000 }) only [SS, forall_const, wx, tguard, acallee, top, tval, fput, tor, vsh, vbin, vconv, vun, tlen2, textr, tix, tix1, tix2, Int.reduceEq, Int.reduceNeg, Nat.reduceGT, Nat.reduceLT, Nat.reduceLeDiff, Nat.reduceEqDiff, ↓reduceIte, reduceCtorEq, Int.reduceToNat, Int.reduceLE, Int.reduceLT, Nat.reduceAdd, Nat.reduceMul, ff_6]) | (refine WK.condT ?_ ?_; focus (simp only [ev_tmp, ev_const, fset_apply, Nat.reduceEqDiff, ↓reduceIte, decide_true, decide_false, ff_6]; done)) | (refine WK.condF ?_ ?_; focus (simp only [ev_tmp, ev_const, fset_apply, Nat.reduceEqDiff, ↓reduceIte, decide_true, decide_false, ff_6]; done)))
    (first | refine WK.retNil ⟨Or.inr rfl, _, rfl, ?_, ?_⟩ | refine WK.skipNil ⟨Or.inl rfl, _, rfl, ?_, ?_⟩)
    · exact fun _ _ => rfl
    · simp only [packed, fset_apply, Nat.reduceEqDiff, ↓reduceIte, List.getD_cons_zero, List.getD_cons_succ, ff_6]
      first | exact ⟨rfl, trivial, trivial⟩ | exact ⟨trivial, trivial, trivial⟩
  | true =>
    obtain ⟨hda, hd1, hd2, _, hta, htl6, _⟩ := ok_facts hok
    have hfw : fwE l = quo (hs l) (ts l) + if hasMinus l then 9223372036854775808 else 0 := rfl
    rw [hok, if_pos rfl] at hpv
    rw [hpv, hfw]
    generalize hs l = h at *
    generalize ts l = t at *
    generalize hasMinus l = neg at *
    obtain ⟨hq, hq63⟩ := quo_ok hda hta hd2 htl6
    have hq' : FloatKind.f64.format.div (Format.nearest double false (valL (h ++ t)) 0) (Format.nearest double false (10 ^ t.length) 0) = some (quo h t) := hq
    have vlt : ∀ q : List UInt8, q.all isD = true → q.length ≤ 15 → valL q < 10 ^ 15 := fun q hq hl => Nat.lt_of_lt_of_le (valL_lt q hq) (Nat.pow_le_pow_right (by omega) hl)
    simp (config := { maxSteps := 1000000 }) only [SS, forall_const, wx, tguard, acallee, top, tval, fput, tor, vsh, vbin, vconv, vun, tlen2, textr, tix, tix1, tix2, Int.reduceEq, Int.reduceNeg, Nat.reduceGT, Nat.reduceLT, Nat.reduceLeDiff, Nat.reduceEqDiff, ↓reduceIte, reduceCtorEq, Int.reduceToNat, Int.reduceLE, Int.reduceLT, Nat.reduceAdd, Nat.reduceMul, ff_6]
    repeat (first | apply WK.seq | apply WK.block | apply WK.skipSeq | apply WK.skipBlock | apply WK.retSeq | apply WK.retBlock | apply WK.exitSeq | apply WK.exitHere | refine WK.exitOn rfl ?_ | ((first | (refine WK.rgn ?_ ?_; kernel_rfl) | refine AtCall.now ?_); simp (config := { maxSteps := 1000000 }) only [SS, forall_const, wx, tguard, acallee, top, tval, fput, tor, vsh, vbin, vconv, vun, tlen2, textr, tix, tix1, tix2, Int.reduceEq, Int.reduceNeg, Nat.reduceGT, Nat.reduceLT, Nat.reduceLeDiff, Nat.reduceEqDiff, ↓reduceIte, reduceCtorEq, Int.reduceToNat, Int.reduceLE, Int.reduceLT, Nat.reduceAdd, Nat.reduceMul, ff_6]) | (refine WK.condT ?_ ?_; focus (simp only [ev_tmp, ev_const, fset_apply, Nat.reduceEqDiff, ↓reduceIte, decide_true, decide_false, ff_6]; done)) | (refine WK.condF ?_ ?_; focus (simp only [ev_tmp, ev_const, fset_apply, Nat.reduceEqDiff, ↓reduceIte, decide_true, decide_false, ff_6]; done)))
    -- the first digits
    refine WK.cutBlock (fun s => s.n = n' ∧ s.H = H' ∧ s.f 4 = .bool neg ∧ s.f 6 = .string (BA t) ∧ s.f 8 = .int .i64 (valL h : Int) ∧ s.f 9 = .int .i64 1) ?_ ?_
    · refine WK.loop (fun kk s => ∃ i : Nat, i ≤ h.length ∧ s.n = n' ∧ s.H = H' ∧ s.f 4 = .bool neg ∧ s.f 5 = .string (BA h) ∧ s.f 6 = .string (BA t) ∧ s.f 8 = .int .i64 (valL (h.take i) : Int) ∧ s.f 9 = .int .i64 1 ∧ s.f 10 = .int .i64 (i : Int) ∧ kk = h.length - i + 1) (h.length + 1) ?_ ?_
      · exact ⟨0, Nat.zero_le _, rfl, rfl, rfl, rfl, rfl, rfl, rfl, rfl, rfl⟩
      rintro kk ⟨f, n1, H1⟩ ⟨i, hi1, rfl, rfl, f4, f5, f6, f8, f9, f10, rfl⟩ ih
      simp only at f4 f5 f6 f8 f9 f10 ih
      by_cases hil : i < h.length
      · have hil' : ((i : Int) < (h.length : Int)) = True := by simp only [eq_iff_iff, iff_true]; omega
        have hg : h[i]? = some h[i] := List.getElem?_eq_getElem hil
        have hw1 : IntKind.i64.wrap ((i : Int) + 1) = ((i + 1 : Nat) : Int) := by rw [wrap_in (by omega) (by omega)]; simp
        have h0 : (0 : Int) ≤ (i : Int) := by omega
        have hb : isD h[i] = true := List.all_eq_true.1 hda _ (List.getElem_mem hil)
        have hv : valL (h.take (i + 1)) = 10 * valL (h.take i) + (h[i].toNat - 48) := by rw [List.take_succ_eq_append_getElem hil, valL_snoc]
        have hV15 := vlt (h.take i) (by rw [List.all_eq_true]; intro x hx; exact List.all_eq_true.1 hda x (List.mem_of_mem_take hx)) (by rw [List.length_take]; omega)
        generalize h[i] = b at hg hb hv
        have hb2 := (isD_iff b).1 hb
        generalize hV : valL (h.take i) = V at *
        have w1 : IntKind.i64.wrap (10 * (V : Int)) = ((10 * V : Nat) : Int) := by rw [wrap_in (by omega) (by omega)]; simp
        have w2 : IntKind.u8.wrap ((b.toNat : Int) - 48) = ((b.toNat - 48 : Nat) : Int) := by rw [wrap_u8]; omega
        have w3 : IntKind.i64.wrap ((b.toNat - 48 : Nat) : Int) = ((b.toNat - 48 : Nat) : Int) := wrap_i64n _ (by omega)
        have w4 : IntKind.i64.wrap (((10 * V : Nat) : Int) + ((b.toNat - 48 : Nat) : Int)) = ((10 * V + (b.toNat - 48) : Nat) : Int) := by rw [wrap_in (by omega) (by omega)]; simp
        repeat (first | apply WK.seq | apply WK.block | apply WK.skipSeq | apply WK.skipBlock | apply WK.retSeq | apply WK.retBlock | apply WK.exitSeq | apply WK.exitHere | refine WK.exitOn rfl ?_ | ((first | (refine WK.rgn ?_ ?_; kernel_rfl) | refine AtCall.now ?_); simp (config := { maxSteps := 1000000 }) only [SS, forall_const, wx, tguard, acallee, top, tval, fput, tor, vsh, vbin, vconv, vun, tlen2, textr, tix, tix1, tix2, Int.reduceEq, Int.reduceNeg, Nat.reduceGT, Nat.reduceLT, Nat.reduceLeDiff, Nat.reduceEqDiff, ↓reduceIte, reduceCtorEq, Int.reduceToNat, Int.reduceLE, Int.reduceLT, Nat.reduceAdd, Nat.reduceMul, f4, f5, f6, f8, f9, f10, hil', hil, ba_size, ba_get, hg, ust, h0, Int.toNat_natCast, w1, w2, w3, w4, ff_6]) | (refine WK.condT ?_ ?_; focus (simp only [ev_tmp, ev_const, fset_apply, Nat.reduceEqDiff, ↓reduceIte, decide_true, decide_false, f4, f5, f6, f8, f9, f10, hil', hil, ba_size, ba_get, hg, ust, h0, Int.toNat_natCast, w1, w2, w3, w4, ff_6]; done)) | (refine WK.condF ?_ ?_; focus (simp only [ev_tmp, ev_const, fset_apply, Nat.reduceEqDiff, ↓reduceIte, decide_true, decide_false, f4, f5, f6, f8, f9, f10, hil', hil, ba_size, ba_get, hg, ust, h0, Int.toNat_natCast, w1, w2, w3, w4, ff_6]; done)))
        refine ih (h.length - (i + 1) + 1) (by omega) _ ⟨i + 1, hil, rfl, rfl, f4, f5, f6, ?_, f9, ?_, rfl⟩
        · simp only [packed, fset_apply, Nat.reduceEqDiff, ↓reduceIte, List.getD_cons_zero, List.getD_cons_succ, w1, w2, w3, w4, ff_6]
          rw [hv]
        · simp only [packed, fset_apply, Nat.reduceEqDiff, ↓reduceIte, List.getD_cons_zero, List.getD_cons_succ, f10, hw1, ff_6]
      · have hil' : ((i : Int) < (h.length : Int)) = False := by simp only [eq_iff_iff, iff_false]; omega
        have hie : i = h.length := by omega
        subst hie
        rw [List.take_length] at f8
        repeat (first | apply WK.seq | apply WK.block | apply WK.skipSeq | apply WK.skipBlock | apply WK.retSeq | apply WK.retBlock | apply WK.exitSeq | apply WK.exitHere | refine WK.exitOn rfl ?_ | ((first | (refine WK.rgn ?_ ?_; kernel_rfl) | refine AtCall.now ?_); simp (config := { maxSteps := 1000000 }) only [SS, forall_const, wx, tguard, acallee, top, tval, fput, tor, vsh, vbin, vconv, vun, tlen2, textr, tix, tix1, tix2, Int.reduceEq, Int.reduceNeg, Nat.reduceGT, Nat.reduceLT, Nat.reduceLeDiff, Nat.reduceEqDiff, ↓reduceIte, reduceCtorEq, Int.reduceToNat, Int.reduceLE, Int.reduceLT, Nat.reduceAdd, Nat.reduceMul, f4, f5, f6, f8, f9, f10, hil', hil, ba_size, ff_6]) | (refine WK.condT ?_ ?_; focus (simp only [ev_tmp, ev_const, fset_apply, Nat.reduceEqDiff, ↓reduceIte, decide_true, decide_false, f4, f5, f6, f8, f9, f10, hil', hil, ba_size, ff_6]; done)) | (refine WK.condF ?_ ?_; focus (simp only [ev_tmp, ev_const, fset_apply, Nat.reduceEqDiff, ↓reduceIte, decide_true, decide_false, f4, f5, f6, f8, f9, f10, hil', hil, ba_size, ff_6]; done)))
        exact WK.skipNil ⟨rfl, rfl, rfl, f4, f6, f8, f9⟩
    rintro ⟨f, n1, H1⟩ ⟨rfl, rfl, f4, f6, f8, f9⟩
    simp only at f4 f6 f8 f9
    repeat (first | apply WK.seq | apply WK.block | apply WK.skipSeq | apply WK.skipBlock | apply WK.retSeq | apply WK.retBlock | apply WK.exitSeq | apply WK.exitHere | refine WK.exitOn rfl ?_ | ((first | (refine WK.rgn ?_ ?_; kernel_rfl) | refine AtCall.now ?_); simp (config := { maxSteps := 1000000 }) only [SS, forall_const, wx, tguard, acallee, top, tval, fput, tor, vsh, vbin, vconv, vun, tlen2, textr, tix, tix1, tix2, Int.reduceEq, Int.reduceNeg, Nat.reduceGT, Nat.reduceLT, Nat.reduceLeDiff, Nat.reduceEqDiff, ↓reduceIte, reduceCtorEq, Int.reduceToNat, Int.reduceLE, Int.reduceLT, Nat.reduceAdd, Nat.reduceMul, f4, f6, f8, f9, ff_6]) | (refine WK.condT ?_ ?_; focus (simp only [ev_tmp, ev_const, fset_apply, Nat.reduceEqDiff, ↓reduceIte, decide_true, decide_false, f4, f6, f8, f9, ff_6]; done)) | (refine WK.condF ?_ ?_; focus (simp only [ev_tmp, ev_const, fset_apply, Nat.reduceEqDiff, ↓reduceIte, decide_true, decide_false, f4, f6, f8, f9, ff_6]; done)))
    refine WK.cutBlock (fun s => s.n = n1 ∧ s.H = H1 ∧ s.f 4 = .bool neg ∧ s.f 8 = .int .i64 (valL (h ++ t) : Int) ∧ s.f 9 = .int .i64 ((10 ^ t.length : Nat) : Int)) ?_ ?_
    · refine WK.loop (fun kk s => ∃ i : Nat, i ≤ t.length ∧ s.n = n1 ∧ s.H = H1 ∧ s.f 4 = .bool neg ∧ s.f 6 = .string (BA t) ∧ s.f 8 = .int .i64 (valL (h ++ t.take i) : Int) ∧ s.f 9 = .int .i64 ((10 ^ i : Nat) : Int) ∧ s.f 11 = .int .i64 (i : Int) ∧ kk = t.length - i + 1) (t.length + 1) ?_ ?_
      · refine ⟨0, Nat.zero_le _, rfl, rfl, f4, f6, ?_, f9, rfl, rfl⟩
        rw [List.take_zero, List.append_nil]; exact f8
      clear f4 f6 f8 f9
      rintro kk ⟨f, n2, H2⟩ ⟨i, hi1, rfl, rfl, f4, f6, f8, f9, f11, rfl⟩ ih
      simp only at f4 f6 f8 f9 f11 ih
      by_cases hil : i < t.length
      · have hil' : ((i : Int) < (t.length : Int)) = True := by simp only [eq_iff_iff, iff_true]; omega
        have hg : t[i]? = some t[i] := List.getElem?_eq_getElem hil
        have hw1 : IntKind.i64.wrap ((i : Int) + 1) = ((i + 1 : Nat) : Int) := by rw [wrap_in (by omega) (by omega)]; simp
        have h0 : (0 : Int) ≤ (i : Int) := by omega
        have hb : isD t[i] = true := List.all_eq_true.1 hta _ (List.getElem_mem hil)
        have hv : valL (h ++ t.take (i + 1)) = 10 * valL (h ++ t.take i) + (t[i].toNat - 48) := by rw [List.take_succ_eq_append_getElem hil, ← List.append_assoc, valL_snoc]
        have hV15 := vlt (h ++ t.take i) (by rw [List.all_append, hda, Bool.true_and, List.all_eq_true]; intro x hx; exact List.all_eq_true.1 hta x (List.mem_of_mem_take hx)) (by rw [List.length_append, List.length_take]; omega)
        have hp6 : 10 ^ i ≤ 10 ^ 6 := Nat.pow_le_pow_right (by omega) (by omega)
        have hps : 10 ^ (i + 1) = 10 * 10 ^ i := Nat.pow_succ'
        generalize t[i] = b at hg hb hv
        have hb2 := (isD_iff b).1 hb
        generalize hV : valL (h ++ t.take i) = V at *
        generalize hPP : 10 ^ i = PP at *
        have w1 : IntKind.i64.wrap (10 * (V : Int)) = ((10 * V : Nat) : Int) := by rw [wrap_in (by omega) (by omega)]; simp
        have w2 : IntKind.u8.wrap ((b.toNat : Int) - 48) = ((b.toNat - 48 : Nat) : Int) := by rw [wrap_u8]; omega
        have w3 : IntKind.i64.wrap ((b.toNat - 48 : Nat) : Int) = ((b.toNat - 48 : Nat) : Int) := wrap_i64n _ (by omega)
        have w4 : IntKind.i64.wrap (((10 * V : Nat) : Int) + ((b.toNat - 48 : Nat) : Int)) = ((10 * V + (b.toNat - 48) : Nat) : Int) := by rw [wrap_in (by omega) (by omega)]; simp
        have w5 : IntKind.i64.wrap (10 * (PP : Int)) = ((10 * PP : Nat) : Int) := by rw [wrap_in (by omega) (by omega)]; simp
        repeat (first | apply WK.seq | apply WK.block | apply WK.skipSeq | apply WK.skipBlock | apply WK.retSeq | apply WK.retBlock | apply WK.exitSeq | apply WK.exitHere | refine WK.exitOn rfl ?_ | ((first | (refine WK.rgn ?_ ?_; kernel_rfl) | refine AtCall.now ?_); simp (config := { maxSteps := 1000000 }) only [SS, forall_const, wx, tguard, acallee, top, tval, fput, tor, vsh, vbin, vconv, vun, tlen2, textr, tix, tix1, tix2, Int.reduceEq, Int.reduceNeg, Nat.reduceGT, Nat.reduceLT, Nat.reduceLeDiff, Nat.reduceEqDiff, ↓reduceIte, reduceCtorEq, Int.reduceToNat, Int.reduceLE, Int.reduceLT, Nat.reduceAdd, Nat.reduceMul, f4, f6, f8, f9, f11, hil', hil, ba_size, ba_get, hg, ust, h0, Int.toNat_natCast, w1, w2, w3, w4, w5, ff_6]) | (refine WK.condT ?_ ?_; focus (simp only [ev_tmp, ev_const, fset_apply, Nat.reduceEqDiff, ↓reduceIte, decide_true, decide_false, f4, f6, f8, f9, f11, hil', hil, ba_size, ba_get, hg, ust, h0, Int.toNat_natCast, w1, w2, w3, w4, w5, ff_6]; done)) | (refine WK.condF ?_ ?_; focus (simp only [ev_tmp, ev_const, fset_apply, Nat.reduceEqDiff, ↓reduceIte, decide_true, decide_false, f4, f6, f8, f9, f11, hil', hil, ba_size, ba_get, hg, ust, h0, Int.toNat_natCast, w1, w2, w3, w4, w5, ff_6]; done)))
        refine ih (t.length - (i + 1) + 1) (by omega) _ ⟨i + 1, hil, rfl, rfl, f4, f6, ?_, ?_, ?_, rfl⟩
        · simp only [packed, fset_apply, Nat.reduceEqDiff, ↓reduceIte, List.getD_cons_zero, List.getD_cons_succ, w1, w2, w3, w4, w5, ff_6]
          rw [hv]
        · simp only [packed, fset_apply, Nat.reduceEqDiff, ↓reduceIte, List.getD_cons_zero, List.getD_cons_succ, w5, ff_6]
          rw [hps]
        · simp only [packed, fset_apply, Nat.reduceEqDiff, ↓reduceIte, List.getD_cons_zero, List.getD_cons_succ, f11, hw1, ff_6]
      · have hil' : ((i : Int) < (t.length : Int)) = False := by simp only [eq_iff_iff, iff_false]; omega
        have hie : i = t.length := by omega
        subst hie
        rw [List.take_length] at f8
        repeat (first | apply WK.seq | apply WK.block | apply WK.skipSeq | apply WK.skipBlock | apply WK.retSeq | apply WK.retBlock | apply WK.exitSeq | apply WK.exitHere | refine WK.exitOn rfl ?_ | ((first | (refine WK.rgn ?_ ?_; kernel_rfl) | refine AtCall.now ?_); simp (config := { maxSteps := 1000000 }) only [SS, forall_const, wx, tguard, acallee, top, tval, fput, tor, vsh, vbin, vconv, vun, tlen2, textr, tix, tix1, tix2, Int.reduceEq, Int.reduceNeg, Nat.reduceGT, Nat.reduceLT, Nat.reduceLeDiff, Nat.reduceEqDiff, ↓reduceIte, reduceCtorEq, Int.reduceToNat, Int.reduceLE, Int.reduceLT, Nat.reduceAdd, Nat.reduceMul, f4, f6, f8, f9, f11, hil', hil, ba_size, ff_6]) | (refine WK.condT ?_ ?_; focus (simp only [ev_tmp, ev_const, fset_apply, Nat.reduceEqDiff, ↓reduceIte, decide_true, decide_false, f4, f6, f8, f9, f11, hil', hil, ba_size, ff_6]; done)) | (refine WK.condF ?_ ?_; focus (simp only [ev_tmp, ev_const, fset_apply, Nat.reduceEqDiff, ↓reduceIte, decide_true, decide_false, f4, f6, f8, f9, f11, hil', hil, ba_size, ff_6]; done)))
        exact WK.skipNil ⟨rfl, rfl, rfl, f4, f8, f9⟩
    clear f4 f6 f8 f9
    rintro ⟨f, n2, H2⟩ ⟨rfl, rfl, f4, f8, f9⟩
    simp only at f4 f8 f9
    cases neg with
    | false =>
      repeat (first | apply WK.seq | apply WK.block | apply WK.skipSeq | apply WK.skipBlock | apply WK.retSeq | apply WK.retBlock | apply WK.exitSeq | apply WK.exitHere | refine WK.exitOn rfl ?_ | ((first | (refine WK.rgn ?_ ?_; kernel_rfl) | refine AtCall.now ?_); simp (config := { maxSteps := 1000000 }) only [SS, forall_const, wx, tguard, acallee, top, tval, fput, tor, vsh, vbin, vconv, vun, tlen2, textr, tix, tix1, tix2, Int.reduceEq, Int.reduceNeg, Nat.reduceGT, Nat.reduceLT, Nat.reduceLeDiff, Nat.reduceEqDiff, ↓reduceIte, reduceCtorEq, Int.reduceToNat, Int.reduceLE, Int.reduceLT, Nat.reduceAdd, Nat.reduceMul, f4, f8, f9, near_nat, hq', ff_6]) | (refine WK.condT ?_ ?_; focus (simp only [ev_tmp, ev_const, fset_apply, Nat.reduceEqDiff, ↓reduceIte, decide_true, decide_false, f4, f8, f9, near_nat, hq', ff_6]; done)) | (refine WK.condF ?_ ?_; focus (simp only [ev_tmp, ev_const, fset_apply, Nat.reduceEqDiff, ↓reduceIte, decide_true, decide_false, f4, f8, f9, near_nat, hq', ff_6]; done)))
      (first | refine WK.retNil ⟨Or.inr rfl, _, rfl, ?_, ?_⟩ | refine WK.skipNil ⟨Or.inl rfl, _, rfl, ?_, ?_⟩)
      · exact fun _ _ => rfl
      · simp only [packed, fset_apply, Nat.reduceEqDiff, ↓reduceIte, List.getD_cons_zero, List.getD_cons_succ, ff_6]
        simp
    | true =>
      have e3 : IntKind.u64.wrap ((BitVec.ofInt IntKind.u64.bits (quo h t : Int) ||| BitVec.ofInt IntKind.u64.bits 9223372036854775808).toNat : Int) = ((quo h t + 9223372036854775808 : Nat) : Int) := by
        have h' : IntKind.u64.wrap ((BitVec.ofInt IntKind.u64.bits (quo h t : Int) ||| BitVec.ofInt IntKind.u64.bits 9223372036854775808).toNat : Int) = ((quo h t ||| 9223372036854775808 : Nat) : Int) := or_u64 (quo h t) 9223372036854775808 (by omega) (by omega)
        have h2 := or_high (quo h t) 63 (by omega)
        rw [show (2 : Nat) ^ 63 = 9223372036854775808 from rfl] at h2
        exact h'.trans (congrArg Nat.cast h2)
      have e4 : ((quo h t + 9223372036854775808 : Nat) : Int).toNat = quo h t + 9223372036854775808 := Int.toNat_natCast _
      repeat (first | apply WK.seq | apply WK.block | apply WK.skipSeq | apply WK.skipBlock | apply WK.retSeq | apply WK.retBlock | apply WK.exitSeq | apply WK.exitHere | refine WK.exitOn rfl ?_ | ((first | (refine WK.rgn ?_ ?_; kernel_rfl) | refine AtCall.now ?_); simp (config := { maxSteps := 1000000 }) only [SS, forall_const, wx, tguard, acallee, top, tval, fput, tor, vsh, vbin, vconv, vun, tlen2, textr, tix, tix1, tix2, Int.reduceEq, Int.reduceNeg, Nat.reduceGT, Nat.reduceLT, Nat.reduceLeDiff, Nat.reduceEqDiff, ↓reduceIte, reduceCtorEq, Int.reduceToNat, Int.reduceLE, Int.reduceLT, Nat.reduceAdd, Nat.reduceMul, f4, f8, f9, near_nat, hq', ext_bits, ext_frombits, e3, e4, ff_6]) | (refine WK.condT ?_ ?_; focus (simp only [ev_tmp, ev_const, fset_apply, Nat.reduceEqDiff, ↓reduceIte, decide_true, decide_false, f4, f8, f9, near_nat, hq', ext_bits, ext_frombits, e3, e4, ff_6]; done)) | (refine WK.condF ?_ ?_; focus (simp only [ev_tmp, ev_const, fset_apply, Nat.reduceEqDiff, ↓reduceIte, decide_true, decide_false, f4, f8, f9, near_nat, hq', ext_bits, ext_frombits, e3, e4, ff_6]; done)))
      (first | refine WK.retNil ⟨Or.inr rfl, _, rfl, ?_, ?_⟩ | refine WK.skipNil ⟨Or.inl rfl, _, rfl, ?_, ?_⟩)
      · exact fun _ _ => rfl
      · simp only [packed, fset_apply, Nat.reduceEqDiff, ↓reduceIte, List.getD_cons_zero, List.getD_cons_succ, ff_6]
        simp
end Go.Proofs.YtddpnhhgmfaloaaGreatDoor
