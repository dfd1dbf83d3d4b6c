/- A part of a proof. Its conditions: none. -/
import Derived.Test.YtihjaobjhmmboaaGreatDoorAmUWhole
set_option linter.all false
namespace Go.Proofs.YtihjaobjhmmboaaGreatDoor
open Go.AM Ieee
set_option maxRecDepth 100000
theorem mathnan_gives (n : Nat) (H : Heap) : Gives Tryz.prog 88 [] n H fun v n' H' => v = .float .f64 9221120237041090561 ∧ n' = n ∧ H' = H := by
 refine Gives.of orders ok88 (Nat.le_of_ble_eq_true rfl) ?_
 repeat (first | apply WK.seq | apply WK.block | apply WK.skipSeq | apply WK.skipBlock | apply WK.retSeq | apply WK.retBlock | apply WK.exitSeq | apply WK.exitHere | refine WK.exitOn rfl ?_ | ((first | (refine WK.rgn ?_ ?_; kernel_rfl) | refine AtCall.now ?_); simp (config := { maxSteps := 1000000 }) only [SS, qx41, forall_const, Int.reduceEq, Int.reduceNeg, Nat.reduceGT, Nat.reduceLT, Nat.reduceLeDiff, Nat.reduceEqDiff, ↓reduceIte, reduceCtorEq, Int.reduceToNat, Int.reduceLE, Int.reduceLT, Nat.reduceAdd, Nat.reduceMul, ext_frombits]) | (refine WK.condT ?_ ?_; focus (simp only [ev_tmp, ev_const, fset_apply, Nat.reduceEqDiff, ↓reduceIte, decide_true, decide_false, ext_frombits]; done)) | (refine WK.condF ?_ ?_; focus (simp only [ev_tmp, ev_const, fset_apply, Nat.reduceEqDiff, ↓reduceIte, decide_true, decide_false, ext_frombits]; done)))
 (first | refine WK.retNil ⟨Or.inr rfl, _, rfl, ?_, ?_⟩ | refine WK.skipNil ⟨Or.inl rfl, _, rfl, ?_, ?_⟩)
 ·exact fun _ _ => rfl
 ·simp only [packed, fset_apply, Nat.reduceEqDiff, ↓reduceIte, List.getD_cons_zero, List.getD_cons_succ]
  exact ⟨trivial, trivial, trivial⟩
theorem inf1_gives (n : Nat) (H : Heap) : Gives Tryz.prog 89 [.int .i64 1] n H fun v n' H' => v = .float .f64 9218868437227405312 ∧ n' = n ∧ H' = H := by
 refine Gives.of orders ok89 (Nat.le_of_ble_eq_true rfl) ?_
 have z : ((0 : Int) ≤ 1) = True := by simp
 repeat (first | apply WK.seq | apply WK.block | apply WK.skipSeq | apply WK.skipBlock | apply WK.retSeq | apply WK.retBlock | apply WK.exitSeq | apply WK.exitHere | refine WK.exitOn rfl ?_ | ((first | (refine WK.rgn ?_ ?_; kernel_rfl) | refine AtCall.now ?_); simp (config := { maxSteps := 1000000 }) only [SS, qx8, forall_const, Int.reduceEq, Int.reduceNeg, Nat.reduceGT, Nat.reduceLT, Nat.reduceLeDiff, Nat.reduceEqDiff, ↓reduceIte, reduceCtorEq, Int.reduceToNat, Int.reduceLE, Int.reduceLT, Nat.reduceAdd, Nat.reduceMul, ext_frombits, z]) | (refine WK.condT ?_ ?_; focus (simp only [ev_tmp, ev_const, fset_apply, Nat.reduceEqDiff, ↓reduceIte, decide_true, decide_false, ext_frombits, z]; done)) | (refine WK.condF ?_ ?_; focus (simp only [ev_tmp, ev_const, fset_apply, Nat.reduceEqDiff, ↓reduceIte, decide_true, decide_false, ext_frombits, z]; done)))
 (first | refine WK.retNil ⟨Or.inr rfl, _, rfl, ?_, ?_⟩ | refine WK.skipNil ⟨Or.inl rfl, _, rfl, ?_, ?_⟩)
 ·exact fun _ _ => rfl
 ·simp only [packed, fset_apply, Nat.reduceEqDiff, ↓reduceIte, List.getD_cons_zero, List.getD_cons_succ]
  exact ⟨trivial, trivial, trivial⟩
theorem inf2_gives (n : Nat) (H : Heap) : Gives Tryz.prog 89 [.int .i64 (-1)] n H fun v n' H' => v = .float .f64 18442240474082181120 ∧ n' = n ∧ H' = H := by
 refine Gives.of orders ok89 (Nat.le_of_ble_eq_true rfl) ?_
 have z : ((0 : Int) ≤ -1) = False := by simp
 repeat (first | apply WK.seq | apply WK.block | apply WK.skipSeq | apply WK.skipBlock | apply WK.retSeq | apply WK.retBlock | apply WK.exitSeq | apply WK.exitHere | refine WK.exitOn rfl ?_ | ((first | (refine WK.rgn ?_ ?_; kernel_rfl) | refine AtCall.now ?_); simp (config := { maxSteps := 1000000 }) only [SS, qx8, forall_const, Int.reduceEq, Int.reduceNeg, Nat.reduceGT, Nat.reduceLT, Nat.reduceLeDiff, Nat.reduceEqDiff, ↓reduceIte, reduceCtorEq, Int.reduceToNat, Int.reduceLE, Int.reduceLT, Nat.reduceAdd, Nat.reduceMul, ext_frombits, z]) | (refine WK.condT ?_ ?_; focus (simp only [ev_tmp, ev_const, fset_apply, Nat.reduceEqDiff, ↓reduceIte, decide_true, decide_false, ext_frombits, z]; done)) | (refine WK.condF ?_ ?_; focus (simp only [ev_tmp, ev_const, fset_apply, Nat.reduceEqDiff, ↓reduceIte, decide_true, decide_false, ext_frombits, z]; done)))
 (first | refine WK.retNil ⟨Or.inr rfl, _, rfl, ?_, ?_⟩ | refine WK.skipNil ⟨Or.inl rfl, _, rfl, ?_, ?_⟩)
 ·exact fun _ _ => rfl
 ·simp only [packed, fset_apply, Nat.reduceEqDiff, ↓reduceIte, List.getD_cons_zero, List.getD_cons_succ]
  exact ⟨trivial, trivial, trivial⟩
set_option maxHeartbeats 1000000 in
theorem copysign_gives (b : Nat) (hb : b < 9223372036854775808) (n : Nat) (H : Heap) : Gives Tryz.prog 95 [.float .f64 b, .float .f64 13830554455654793216] n H fun v n' H' => v = .float .f64 (b + 9223372036854775808) ∧ n' = n ∧ H' = H := by
 refine Gives.of orders ok95 (Nat.le_of_ble_eq_true rfl) ?_
 have e1 : IntKind.u64.wrap ((BitVec.ofInt IntKind.u64.bits (b : Int) &&& ~~~ BitVec.ofInt IntKind.u64.bits 9223372036854775808).toNat : Int) = (b : Int) := by
  have h := andnot_u64 b 9223372036854775808 (by omega) (by omega)
  have h2 : IntKind.u64.wrap ((BitVec.ofInt IntKind.u64.bits (b : Int) &&& ~~~ BitVec.ofInt IntKind.u64.bits 9223372036854775808).toNat : Int) = ((b &&& 9223372036854775807 : Nat) : Int) := h
  rw [h2, show (9223372036854775807 : Nat) = 2 ^ 63 - 1 by rfl, and_mask]
  congr 1; omega
 have e2 : IntKind.u64.wrap ((BitVec.ofInt IntKind.u64.bits (13830554455654793216 : Nat) &&& BitVec.ofInt IntKind.u64.bits 9223372036854775808).toNat : Int) = 9223372036854775808 := rfl
 have e3 : IntKind.u64.wrap ((BitVec.ofInt IntKind.u64.bits (b : Int) ||| BitVec.ofInt IntKind.u64.bits 9223372036854775808).toNat : Int) = ((b + 9223372036854775808 : Nat) : Int) := by
  have h : IntKind.u64.wrap ((BitVec.ofInt IntKind.u64.bits (b : Int) ||| BitVec.ofInt IntKind.u64.bits 9223372036854775808).toNat : Int) = ((b ||| 9223372036854775808 : Nat) : Int) := or_u64 b 9223372036854775808 (by omega) (by omega)
  have h2 := or_high b 63 (by omega)
  rw [show (2 : Nat) ^ 63 = 9223372036854775808 from rfl] at h2
  exact h.trans (congrArg Nat.cast h2)
 have e4 : ((b + 9223372036854775808 : Nat) : Int).toNat = b + 9223372036854775808 := Int.toNat_natCast _
 repeat (first | apply WK.seq | apply WK.block | apply WK.skipSeq | apply WK.skipBlock | apply WK.retSeq | apply WK.retBlock | apply WK.exitSeq | apply WK.exitHere | refine WK.exitOn rfl ?_ | ((first | (refine WK.rgn ?_ ?_; kernel_rfl) | refine AtCall.now ?_); simp (config := { maxSteps := 1000000 }) only [SS, qx8, forall_const, Int.reduceEq, Int.reduceNeg, Nat.reduceGT, Nat.reduceLT, Nat.reduceLeDiff, Nat.reduceEqDiff, ↓reduceIte, reduceCtorEq, Int.reduceToNat, Int.reduceLE, Int.reduceLT, Nat.reduceAdd, Nat.reduceMul, ext_bits, ext_frombits, aop_andnot, Go.AM.tan, e1, e2, e3, e4]) | (refine WK.condT ?_ ?_; focus (simp only [ev_tmp, ev_const, fset_apply, Nat.reduceEqDiff, ↓reduceIte, decide_true, decide_false, ext_bits, ext_frombits, aop_andnot, Go.AM.tan, e1, e2, e3, e4]; done)) | (refine WK.condF ?_ ?_; focus (simp only [ev_tmp, ev_const, fset_apply, Nat.reduceEqDiff, ↓reduceIte, decide_true, decide_false, ext_bits, ext_frombits, aop_andnot, Go.AM.tan, e1, e2, e3, e4]; done)))
 (first | refine WK.retNil ⟨Or.inr rfl, _, rfl, ?_, ?_⟩ | refine WK.skipNil ⟨Or.inl rfl, _, rfl, ?_, ?_⟩)
 ·exact fun _ _ => rfl
 ·simp only [packed, fset_apply, Nat.reduceEqDiff, ↓reduceIte, List.getD_cons_zero, List.getD_cons_succ]
  exact ⟨trivial, trivial, trivial⟩
theorem WK.cutRetSeq {P : Program} {b c : Code} {K : List Fk} {s : St} {Q : AExit → St → Prop} (R : St → Prop) (h1 : WK P c [.seq b] s fun e s1 => e = .normal ∧ R s1 ∨ e = .ret ∧ Q .ret s1) (h2 : ∀ s1, R s1 → WK P .skip K s1 Q) : WK P c (.seq b :: K) s Q :=
 ⟨(WK.cutRet (c := .seq c b) R (WK.seq h1) h2).run⟩
def hs (l : List UInt8) : List UInt8 := headL (cutM l)
def ts (l : List UInt8) : List UInt8 := tailL (cutM l)
def lead0 (l : List UInt8) : Bool := decide (1 < l.length) && (l[0]? == some 48)
def okE (l : List UInt8) : Bool := digsB (hs l) 1 9 && !lead0 (hs l) && (!hasDot (cutM l) || digsB (ts l) 1 6)
def quo (h t : List UInt8) : Nat := (Format.div double (Format.nearest double false (valL (h ++ t)) 0) (Format.nearest double false (10 ^ t.length) 0)).getD 0
def fwE (l : List UInt8) : Nat := quo (hs l) (ts l) + if hasMinus l then 9223372036854775808 else 0
theorem val_ten (k : Nat) : valL (49 :: zs k) = 10 ^ k := by
 induction k with
 | zero => rfl
 | succ k ih =>
  have : (49 : UInt8) :: zs (k + 1) = (49 :: zs k) ++ [48] := by
   unfold zs; rw [List.replicate_succ', List.cons_append]
  rw [this, valL_snoc, ih, Nat.pow_succ, Nat.mul_comm]; rfl
theorem ten_digs (k : Nat) : (49 :: zs k).all isD = true := by
 rw [List.all_cons, Bool.and_eq_true]
 refine ⟨rfl, ?_⟩
 rw [List.all_eq_true]
 intro x hx
 rw [List.eq_of_mem_replicate hx]; rfl
theorem zero_div : ((List.range 7).all fun k => Format.div double (Format.nearest double false 0 0) (Format.nearest double false (10 ^ k) 0) == some 0) = true := by kernel_rfl
theorem digsB_len {l : List UInt8} {lo hi : Nat} (h : digsB l lo hi = true) : l.all isD = true ∧ lo ≤ l.length ∧ l.length ≤ hi := by
 unfold digsB at h
 simp only [Bool.and_eq_true, decide_eq_true_eq] at h
 exact ⟨h.1, by omega, by omega⟩
theorem quo_ok {h t : List UInt8} (hh : h.all isD = true) (ht : t.all isD = true) (hl : h.length ≤ 9) (tl : t.length ≤ 6) :
  Format.div double (Format.nearest double false (valL (h ++ t)) 0) (Format.nearest double false (10 ^ t.length) 0) = some (quo h t) ∧ quo h t < 9223372036854775808 := by
 have hall : (h ++ t).all isD = true := by rw [List.all_append, hh, ht]; rfl
 have hlt := valL_lt _ hall
 have hb : valL (h ++ t) < 10 ^ 9 * 10 ^ t.length := by
  refine Nat.lt_of_lt_of_le hlt ?_
  rw [← Nat.pow_add]
  exact Nat.pow_le_pow_right (by omega) (by rw [List.length_append]; omega)
 unfold quo
 by_cases h0 : valL (h ++ t) = 0
 ·have hz := eq_of_beq (List.all_eq_true.1 zero_div t.length (List.mem_range.2 (by omega)))
  rw [h0, hz]
  exact ⟨rfl, by decide⟩
 ·obtain ⟨M, e, hd, hM1, hM2, he1, he2, _⟩ := div_ten (n := valL (h ++ t)) (k := t.length) (by omega) tl hb
  rw [hd]
  refine ⟨rfl, ?_⟩
  simp only [Option.getD_some, wd]
  omega
set_option maxHeartbeats 4000000 in
theorem read_gives (l : List UInt8) (hl : l.length ≤ 40) (s1 : l ≠ [110, 97, 110]) (s2 : l ≠ [105, 110, 102]) (s3 : l ≠ [45, 105, 110, 102]) (n : Nat) (H : Heap) :
    Gives Tryz.prog 74 [.string (BA l)] n H fun v n' H' => v = .tuple #[.float .f64 (if okE l then fwE l else 0), .bool (okE l)] ∧ n' = n ∧ H' = H := by
  refine Gives.of orders ok74 (Nat.le_of_ble_eq_true rfl) ?_
  have e1 : (l == [110, 97, 110]) = false := by simpa using s1
  have e2 : (l == [105, 110, 102]) = false := by simpa using s2
  have e3 : (l == [45, 105, 110, 102]) = false := by simpa using s3
  repeat (first | apply WK.seq | apply WK.block | apply WK.skipSeq | apply WK.skipBlock | apply WK.retSeq | apply WK.retBlock | apply WK.exitSeq | apply WK.exitHere | refine WK.exitOn rfl ?_ | ((first | (refine WK.rgn ?_ ?_; kernel_rfl) | refine AtCall.now ?_); simp (config := { maxSteps := 1000000 }) only [SS, qx12, forall_const, vun, Int.reduceEq, Int.reduceNeg, Nat.reduceGT, Nat.reduceLT, Nat.reduceLeDiff, Nat.reduceEqDiff, ↓reduceIte, reduceCtorEq, Int.reduceToNat, Int.reduceLE, Int.reduceLT, Nat.reduceAdd, Nat.reduceMul, BAS, ba_list, e1, e2, e3, ff_74]) | (refine WK.condT ?_ ?_; focus (simp only [ev_tmp, ev_const, fset_apply, Nat.reduceEqDiff, ↓reduceIte, decide_true, decide_false, BAS, ba_list, e1, e2, e3, ff_74]; done)) | (refine WK.condF ?_ ?_; focus (simp only [ev_tmp, ev_const, fset_apply, Nat.reduceEqDiff, ↓reduceIte, decide_true, decide_false, BAS, ba_list, e1, e2, e3, ff_74]; done)))
  refine AtCall.by (cutprefix_gives l _ _) ?_
  rintro v n' H' hk ⟨rfl, rfl, rfl⟩
  have hcl : (cutM l).length ≤ 1000 := by
    unfold cutM; split
    · rw [List.length_tail]; omega
    · omega
  simp (config := { maxSteps := 1000000 }) only [SS, qx12, forall_const, vun, Int.reduceEq, Int.reduceNeg, Nat.reduceGT, Nat.reduceLT, Nat.reduceLeDiff, Nat.reduceEqDiff, ↓reduceIte, reduceCtorEq, Int.reduceToNat, Int.reduceLE, Int.reduceLT, Nat.reduceAdd, Nat.reduceMul, ff_74]
  repeat (first | apply WK.seq | apply WK.block | apply WK.skipSeq | apply WK.skipBlock | apply WK.retSeq | apply WK.retBlock | apply WK.exitSeq | apply WK.exitHere | refine WK.exitOn rfl ?_ | ((first | (refine WK.rgn ?_ ?_; kernel_rfl) | refine AtCall.now ?_); simp (config := { maxSteps := 1000000 }) only [SS, qx12, forall_const, vun, Int.reduceEq, Int.reduceNeg, Nat.reduceGT, Nat.reduceLT, Nat.reduceLeDiff, Nat.reduceEqDiff, ↓reduceIte, reduceCtorEq, Int.reduceToNat, Int.reduceLE, Int.reduceLT, Nat.reduceAdd, Nat.reduceMul, BAS, ff_74]) | (refine WK.condT ?_ ?_; focus (simp only [ev_tmp, ev_const, fset_apply, Nat.reduceEqDiff, ↓reduceIte, decide_true, decide_false, BAS, ff_74]; done)) | (refine WK.condF ?_ ?_; focus (simp only [ev_tmp, ev_const, fset_apply, Nat.reduceEqDiff, ↓reduceIte, decide_true, decide_false, BAS, ff_74]; done)))
  refine AtCall.by (cut_gives (cutM l) hcl _ _) ?_
  rintro v n' H' hk ⟨rfl, rfl, rfl⟩
  simp (config := { maxSteps := 1000000 }) only [SS, qx12, forall_const, vun, Int.reduceEq, Int.reduceNeg, Nat.reduceGT, Nat.reduceLT, Nat.reduceLeDiff, Nat.reduceEqDiff, ↓reduceIte, reduceCtorEq, Int.reduceToNat, Int.reduceLE, Int.reduceLT, Nat.reduceAdd, Nat.reduceMul, ff_74]
  repeat (first | apply WK.seq | apply WK.block | apply WK.skipSeq | apply WK.skipBlock | apply WK.retSeq | apply WK.retBlock | apply WK.exitSeq | apply WK.exitHere | refine WK.exitOn rfl ?_)
  have hhl : (headL (cutM l)).length ≤ 1000 := by
    have : (headL (cutM l)).length ≤ (cutM l).length := by unfold headL; exact List.Sublist.length_le (List.takeWhile_sublist _)
    omega
  have htl : (tailL (cutM l)).length ≤ 1000 := by
    have : (tailL (cutM l)).length ≤ (cutM l).length := by
      unfold tailL; rw [List.length_tail]
      have := List.Sublist.length_le (List.dropWhile_sublist (· != 46) (l := cutM l))
      omega
    omega
  have hok : okE l = (digsB (headL (cutM l)) 1 9 && !lead0 (headL (cutM l)) && (!hasDot (cutM l) || digsB (tailL (cutM l)) 1 6)) := rfl
  have hfw : fwE l = quo (headL (cutM l)) (tailL (cutM l)) + if hasMinus l then 9223372036854775808 else 0 := rfl
  have hnd : hasDot (cutM l) = false → tailL (cutM l) = [] := fun h => (head_all _ h).2
  generalize okE l = ok at *
  generalize fwE l = fw at *
  generalize headL (cutM l) = h at *
  generalize tailL (cutM l) = t at *
  generalize hasDot (cutM l) = dot at *
  generalize hasMinus l = neg at *
  refine WK.cutRetSeq (fun s => ok = true ∧ s.n = n' ∧ s.H = H' ∧ s.f 5 = .bool neg ∧ s.f 6 = .string (BA h) ∧ s.f 7 = .string (BA t)) ?_ ?_
  · repeat (first | apply WK.seq | apply WK.block | apply WK.skipSeq | apply WK.skipBlock | apply WK.retSeq | apply WK.retBlock | apply WK.exitSeq | apply WK.exitHere | refine WK.exitOn rfl ?_ | ((first | (refine WK.rgn ?_ ?_; kernel_rfl) | refine AtCall.now ?_); simp (config := { maxSteps := 1000000 }) only [SS, qx12, forall_const, vun, Int.reduceEq, Int.reduceNeg, Nat.reduceGT, Nat.reduceLT, Nat.reduceLeDiff, Nat.reduceEqDiff, ↓reduceIte, reduceCtorEq, Int.reduceToNat, Int.reduceLE, Int.reduceLT, Nat.reduceAdd, Nat.reduceMul, ff_74]) | (refine WK.condT ?_ ?_; focus (simp only [ev_tmp, ev_const, fset_apply, Nat.reduceEqDiff, ↓reduceIte, decide_true, decide_false, ff_74]; done)) | (refine WK.condF ?_ ?_; focus (simp only [ev_tmp, ev_const, fset_apply, Nat.reduceEqDiff, ↓reduceIte, decide_true, decide_false, ff_74]; done)))
    refine AtCall.by (digs_gives h 1 9 hhl _ _) ?_
    rintro v n' H' hk ⟨rfl, rfl, rfl⟩
    cases hd : digsB h 1 9 with
    | false =>
      rw [hd] at hok
      have hokf : ok = false := hok
      subst hokf
      simp (config := { maxSteps := 1000000 }) only [SS, qx12, forall_const, vun, Int.reduceEq, Int.reduceNeg, Nat.reduceGT, Nat.reduceLT, Nat.reduceLeDiff, Nat.reduceEqDiff, ↓reduceIte, reduceCtorEq, Int.reduceToNat, Int.reduceLE, Int.reduceLT, Nat.reduceAdd, Nat.reduceMul, hd, ff_74]
      repeat (first | apply WK.seq | apply WK.block | apply WK.skipSeq | apply WK.skipBlock | apply WK.retSeq | apply WK.retBlock | apply WK.exitSeq | apply WK.exitHere | refine WK.exitOn rfl ?_ | ((first | (refine WK.rgn ?_ ?_; kernel_rfl) | refine AtCall.now ?_); simp (config := { maxSteps := 1000000 }) only [SS, qx12, forall_const, vun, Int.reduceEq, Int.reduceNeg, Nat.reduceGT, Nat.reduceLT, Nat.reduceLeDiff, Nat.reduceEqDiff, ↓reduceIte, reduceCtorEq, Int.reduceToNat, Int.reduceLE, Int.reduceLT, Nat.reduceAdd, Nat.reduceMul, hd, ff_74]) | (refine WK.condT ?_ ?_; focus (simp only [ev_tmp, ev_const, fset_apply, Nat.reduceEqDiff, ↓reduceIte, decide_true, decide_false, hd, ff_74]; done)) | (refine WK.condF ?_ ?_; focus (simp only [ev_tmp, ev_const, fset_apply, Nat.reduceEqDiff, ↓reduceIte, decide_true, decide_false, hd, ff_74]; done)))
      refine WK.retNil ⟨rfl, Or.inr rfl, _, rfl, fun _ _ => rfl, ?_⟩
      simp only [packed, fset_apply, Nat.reduceEqDiff, ↓reduceIte, List.getD_cons_zero, List.getD_cons_succ, ff_74]
      exact ⟨trivial, trivial, trivial⟩
    | true =>
      rw [hd] at hok
      obtain ⟨hda, hd1, hd2⟩ := digsB_len (lo := 1) (hi := 9) hd
      have hz : (0 : Int) ≤ 0 := by omega
      cases h with
      | nil => simp at hd1
      | cons a h =>
        have fin : ∀ b : Bool, lead0 (a :: h) = b → ok = (!b && (!dot || digsB t 1 6)) := by
          intro b hb; rw [hok, hb]; rfl
        by_cases h1 : 1 < (a :: h).length
        · have h1' : ((1 : Int) < ((h.length + 1 : Nat) : Int)) = True := by
            rw [List.length_cons] at h1
            simp only [eq_iff_iff, iff_true]; omega
          by_cases ha : a = 48
          · have hl0 : lead0 (a :: h) = true := by
              unfold lead0; rw [decide_eq_true h1, ha]; rfl
            have ha' : ((a.toNat : Int) = 48) = True := by rw [ha]; simp
            have hokf : ok = false := fin _ hl0
            subst hokf
            simp (config := { maxSteps := 1000000 }) only [SS, qx12, forall_const, vun, Int.reduceEq, Int.reduceNeg, Nat.reduceGT, Nat.reduceLT, Nat.reduceLeDiff, Nat.reduceEqDiff, ↓reduceIte, reduceCtorEq, Int.reduceToNat, Int.reduceLE, Int.reduceLT, Nat.reduceAdd, Nat.reduceMul, hd, ba_size, h1', ba_get, ust, ha', ff_74]
            repeat (first | apply WK.seq | apply WK.block | apply WK.skipSeq | apply WK.skipBlock | apply WK.retSeq | apply WK.retBlock | apply WK.exitSeq | apply WK.exitHere | refine WK.exitOn rfl ?_ | ((first | (refine WK.rgn ?_ ?_; kernel_rfl) | refine AtCall.now ?_); simp (config := { maxSteps := 1000000 }) only [SS, qx12, forall_const, vun, Int.reduceEq, Int.reduceNeg, Nat.reduceGT, Nat.reduceLT, Nat.reduceLeDiff, Nat.reduceEqDiff, ↓reduceIte, reduceCtorEq, Int.reduceToNat, Int.reduceLE, Int.reduceLT, Nat.reduceAdd, Nat.reduceMul, hd, ba_size, h1', ba_get, ust, ha', ff_74]) | (refine WK.condT ?_ ?_; focus (simp only [ev_tmp, ev_const, fset_apply, Nat.reduceEqDiff, ↓reduceIte, decide_true, decide_false, hd, ba_size, h1', ba_get, ust, ha', ff_74]; done)) | (refine WK.condF ?_ ?_; focus (simp only [ev_tmp, ev_const, fset_apply, Nat.reduceEqDiff, ↓reduceIte, decide_true, decide_false, hd, ba_size, h1', ba_get, ust, ha', ff_74]; done)))
            refine WK.retNil ⟨rfl, Or.inr rfl, _, rfl, fun _ _ => rfl, ?_⟩
            simp only [packed, fset_apply, Nat.reduceEqDiff, ↓reduceIte, List.getD_cons_zero, List.getD_cons_succ, ff_74]
            exact ⟨trivial, trivial, trivial⟩
          · have hl0 : lead0 (a :: h) = false := by
              unfold lead0; simp [ha]
            have ha' : ((a.toNat : Int) = 48) = False := by
              simp only [eq_iff_iff, iff_false]
              intro e; exact ha (UInt8.toNat_inj.1 (by rw [show UInt8.toNat 48 = 48 from rfl]; omega))
            have hokf := fin _ hl0
            cases dot with
            | false =>
              have hok1 : ok = true := by rw [hokf]; rfl
              simp (config := { maxSteps := 1000000 }) only [SS, qx12, forall_const, vun, Int.reduceEq, Int.reduceNeg, Nat.reduceGT, Nat.reduceLT, Nat.reduceLeDiff, Nat.reduceEqDiff, ↓reduceIte, reduceCtorEq, Int.reduceToNat, Int.reduceLE, Int.reduceLT, Nat.reduceAdd, Nat.reduceMul, hd, ba_size, h1', ba_get, ust, ha', ff_74]
              repeat (first | apply WK.seq | apply WK.block | apply WK.skipSeq | apply WK.skipBlock | apply WK.retSeq | apply WK.retBlock | apply WK.exitSeq | apply WK.exitHere | refine WK.exitOn rfl ?_ | ((first | (refine WK.rgn ?_ ?_; kernel_rfl) | refine AtCall.now ?_); simp (config := { maxSteps := 1000000 }) only [SS, qx12, forall_const, vun, Int.reduceEq, Int.reduceNeg, Nat.reduceGT, Nat.reduceLT, Nat.reduceLeDiff, Nat.reduceEqDiff, ↓reduceIte, reduceCtorEq, Int.reduceToNat, Int.reduceLE, Int.reduceLT, Nat.reduceAdd, Nat.reduceMul, hd, ba_size, h1', ba_get, ust, ha', ff_74]) | (refine WK.condT ?_ ?_; focus (simp only [ev_tmp, ev_const, fset_apply, Nat.reduceEqDiff, ↓reduceIte, decide_true, decide_false, hd, ba_size, h1', ba_get, ust, ha', ff_74]; done)) | (refine WK.condF ?_ ?_; focus (simp only [ev_tmp, ev_const, fset_apply, Nat.reduceEqDiff, ↓reduceIte, decide_true, decide_false, hd, ba_size, h1', ba_get, ust, ha', ff_74]; done)))
              exact WK.skipNil (Or.inl ⟨rfl, hok1, rfl, rfl, rfl, rfl, rfl⟩)
            | true =>
              simp (config := { maxSteps := 1000000 }) only [SS, qx12, forall_const, vun, Int.reduceEq, Int.reduceNeg, Nat.reduceGT, Nat.reduceLT, Nat.reduceLeDiff, Nat.reduceEqDiff, ↓reduceIte, reduceCtorEq, Int.reduceToNat, Int.reduceLE, Int.reduceLT, Nat.reduceAdd, Nat.reduceMul, hd, ba_size, h1', ba_get, ust, ha', ff_74]
              refine AtCall.by (digs_gives t 1 6 htl _ _) ?_
              rintro v n' H' hk ⟨rfl, rfl, rfl⟩
              cases ht : digsB t 1 6 with
              | false =>
                have hok1 : ok = false := by rw [hokf, ht]; rfl
                subst hok1
                simp (config := { maxSteps := 1000000 }) only [SS, qx12, forall_const, vun, Int.reduceEq, Int.reduceNeg, Nat.reduceGT, Nat.reduceLT, Nat.reduceLeDiff, Nat.reduceEqDiff, ↓reduceIte, reduceCtorEq, Int.reduceToNat, Int.reduceLE, Int.reduceLT, Nat.reduceAdd, Nat.reduceMul, ht, ff_74]
                repeat (first | apply WK.seq | apply WK.block | apply WK.skipSeq | apply WK.skipBlock | apply WK.retSeq | apply WK.retBlock | apply WK.exitSeq | apply WK.exitHere | refine WK.exitOn rfl ?_ | ((first | (refine WK.rgn ?_ ?_; kernel_rfl) | refine AtCall.now ?_); simp (config := { maxSteps := 1000000 }) only [SS, qx12, forall_const, vun, Int.reduceEq, Int.reduceNeg, Nat.reduceGT, Nat.reduceLT, Nat.reduceLeDiff, Nat.reduceEqDiff, ↓reduceIte, reduceCtorEq, Int.reduceToNat, Int.reduceLE, Int.reduceLT, Nat.reduceAdd, Nat.reduceMul, ht, ff_74]) | (refine WK.condT ?_ ?_; focus (simp only [ev_tmp, ev_const, fset_apply, Nat.reduceEqDiff, ↓reduceIte, decide_true, decide_false, ht, ff_74]; done)) | (refine WK.condF ?_ ?_; focus (simp only [ev_tmp, ev_const, fset_apply, Nat.reduceEqDiff, ↓reduceIte, decide_true, decide_false, ht, ff_74]; done)))
                refine WK.retNil ⟨rfl, Or.inr rfl, _, rfl, fun _ _ => rfl, ?_⟩
                simp only [packed, fset_apply, Nat.reduceEqDiff, ↓reduceIte, List.getD_cons_zero, List.getD_cons_succ, ff_74]
                exact ⟨trivial, trivial, trivial⟩
              | true =>
                have hok1 : ok = true := by rw [hokf, ht]; rfl
                simp (config := { maxSteps := 1000000 }) only [SS, qx12, forall_const, vun, Int.reduceEq, Int.reduceNeg, Nat.reduceGT, Nat.reduceLT, Nat.reduceLeDiff, Nat.reduceEqDiff, ↓reduceIte, reduceCtorEq, Int.reduceToNat, Int.reduceLE, Int.reduceLT, Nat.reduceAdd, Nat.reduceMul, ht, ff_74]
                repeat (first | apply WK.seq | apply WK.block | apply WK.skipSeq | apply WK.skipBlock | apply WK.retSeq | apply WK.retBlock | apply WK.exitSeq | apply WK.exitHere | refine WK.exitOn rfl ?_ | ((first | (refine WK.rgn ?_ ?_; kernel_rfl) | refine AtCall.now ?_); simp (config := { maxSteps := 1000000 }) only [SS, qx12, forall_const, vun, Int.reduceEq, Int.reduceNeg, Nat.reduceGT, Nat.reduceLT, Nat.reduceLeDiff, Nat.reduceEqDiff, ↓reduceIte, reduceCtorEq, Int.reduceToNat, Int.reduceLE, Int.reduceLT, Nat.reduceAdd, Nat.reduceMul, ht, ff_74]) | (refine WK.condT ?_ ?_; focus (simp only [ev_tmp, ev_const, fset_apply, Nat.reduceEqDiff, ↓reduceIte, decide_true, decide_false, ht, ff_74]; done)) | (refine WK.condF ?_ ?_; focus (simp only [ev_tmp, ev_const, fset_apply, Nat.reduceEqDiff, ↓reduceIte, decide_true, decide_false, ht, ff_74]; done)))
                exact WK.skipNil (Or.inl ⟨rfl, hok1, rfl, rfl, rfl, rfl, rfl⟩)
        · have h1' : ((1 : Int) < ((h.length + 1 : Nat) : Int)) = False := by
            rw [List.length_cons] at h1
            simp only [eq_iff_iff, iff_false]; omega
          have hl0 : lead0 (a :: h) = false := by
            unfold lead0; rw [decide_eq_false h1]; rfl
          have hokf := fin _ hl0
          cases dot with
          | false =>
            have hok1 : ok = true := by rw [hokf]; rfl
            simp (config := { maxSteps := 1000000 }) only [SS, qx12, forall_const, vun, Int.reduceEq, Int.reduceNeg, Nat.reduceGT, Nat.reduceLT, Nat.reduceLeDiff, Nat.reduceEqDiff, ↓reduceIte, reduceCtorEq, Int.reduceToNat, Int.reduceLE, Int.reduceLT, Nat.reduceAdd, Nat.reduceMul, hd, ba_size, h1', ba_get, ust, ff_74]
            repeat (first | apply WK.seq | apply WK.block | apply WK.skipSeq | apply WK.skipBlock | apply WK.retSeq | apply WK.retBlock | apply WK.exitSeq | apply WK.exitHere | refine WK.exitOn rfl ?_ | ((first | (refine WK.rgn ?_ ?_; kernel_rfl) | refine AtCall.now ?_); simp (config := { maxSteps := 1000000 }) only [SS, qx12, forall_const, vun, Int.reduceEq, Int.reduceNeg, Nat.reduceGT, Nat.reduceLT, Nat.reduceLeDiff, Nat.reduceEqDiff, ↓reduceIte, reduceCtorEq, Int.reduceToNat, Int.reduceLE, Int.reduceLT, Nat.reduceAdd, Nat.reduceMul, hd, ba_size, h1', ba_get, ust, ff_74]) | (refine WK.condT ?_ ?_; focus (simp only [ev_tmp, ev_const, fset_apply, Nat.reduceEqDiff, ↓reduceIte, decide_true, decide_false, hd, ba_size, h1', ba_get, ust, ff_74]; done)) | (refine WK.condF ?_ ?_; focus (simp only [ev_tmp, ev_const, fset_apply, Nat.reduceEqDiff, ↓reduceIte, decide_true, decide_false, hd, ba_size, h1', ba_get, ust, ff_74]; done)))
            exact WK.skipNil (Or.inl ⟨rfl, hok1, rfl, rfl, rfl, rfl, rfl⟩)
          | true =>
            simp (config := { maxSteps := 1000000 }) only [SS, qx12, forall_const, vun, Int.reduceEq, Int.reduceNeg, Nat.reduceGT, Nat.reduceLT, Nat.reduceLeDiff, Nat.reduceEqDiff, ↓reduceIte, reduceCtorEq, Int.reduceToNat, Int.reduceLE, Int.reduceLT, Nat.reduceAdd, Nat.reduceMul, hd, ba_size, h1', ba_get, ust, ff_74]
            refine AtCall.by (digs_gives t 1 6 htl _ _) ?_
            rintro v n' H' hk ⟨rfl, rfl, rfl⟩
            cases ht : digsB t 1 6 with
            | false =>
              have hok1 : ok = false := by rw [hokf, ht]; rfl
              subst hok1
              simp (config := { maxSteps := 1000000 }) only [SS, qx12, forall_const, vun, Int.reduceEq, Int.reduceNeg, Nat.reduceGT, Nat.reduceLT, Nat.reduceLeDiff, Nat.reduceEqDiff, ↓reduceIte, reduceCtorEq, Int.reduceToNat, Int.reduceLE, Int.reduceLT, Nat.reduceAdd, Nat.reduceMul, ht, ff_74]
              repeat (first | apply WK.seq | apply WK.block | apply WK.skipSeq | apply WK.skipBlock | apply WK.retSeq | apply WK.retBlock | apply WK.exitSeq | apply WK.exitHere | refine WK.exitOn rfl ?_ | ((first | (refine WK.rgn ?_ ?_; kernel_rfl) | refine AtCall.now ?_); simp (config := { maxSteps := 1000000 }) only [SS, qx12, forall_const, vun, Int.reduceEq, Int.reduceNeg, Nat.reduceGT, Nat.reduceLT, Nat.reduceLeDiff, Nat.reduceEqDiff, ↓reduceIte, reduceCtorEq, Int.reduceToNat, Int.reduceLE, Int.reduceLT, Nat.reduceAdd, Nat.reduceMul, ht, ff_74]) | (refine WK.condT ?_ ?_; focus (simp only [ev_tmp, ev_const, fset_apply, Nat.reduceEqDiff, ↓reduceIte, decide_true, decide_false, ht, ff_74]; done)) | (refine WK.condF ?_ ?_; focus (simp only [ev_tmp, ev_const, fset_apply, Nat.reduceEqDiff, ↓reduceIte, decide_true, decide_false, ht, ff_74]; done)))
              refine WK.retNil ⟨rfl, Or.inr rfl, _, rfl, fun _ _ => rfl, ?_⟩
              simp only [packed, fset_apply, Nat.reduceEqDiff, ↓reduceIte, List.getD_cons_zero, List.getD_cons_succ, ff_74]
              exact ⟨trivial, trivial, trivial⟩
            | true =>
              have hok1 : ok = true := by rw [hokf, ht]; rfl
              simp (config := { maxSteps := 1000000 }) only [SS, qx12, forall_const, vun, Int.reduceEq, Int.reduceNeg, Nat.reduceGT, Nat.reduceLT, Nat.reduceLeDiff, Nat.reduceEqDiff, ↓reduceIte, reduceCtorEq, Int.reduceToNat, Int.reduceLE, Int.reduceLT, Nat.reduceAdd, Nat.reduceMul, ht, ff_74]
              repeat (first | apply WK.seq | apply WK.block | apply WK.skipSeq | apply WK.skipBlock | apply WK.retSeq | apply WK.retBlock | apply WK.exitSeq | apply WK.exitHere | refine WK.exitOn rfl ?_ | ((first | (refine WK.rgn ?_ ?_; kernel_rfl) | refine AtCall.now ?_); simp (config := { maxSteps := 1000000 }) only [SS, qx12, forall_const, vun, Int.reduceEq, Int.reduceNeg, Nat.reduceGT, Nat.reduceLT, Nat.reduceLeDiff, Nat.reduceEqDiff, ↓reduceIte, reduceCtorEq, Int.reduceToNat, Int.reduceLE, Int.reduceLT, Nat.reduceAdd, Nat.reduceMul, ht, ff_74]) | (refine WK.condT ?_ ?_; focus (simp only [ev_tmp, ev_const, fset_apply, Nat.reduceEqDiff, ↓reduceIte, decide_true, decide_false, ht, ff_74]; done)) | (refine WK.condF ?_ ?_; focus (simp only [ev_tmp, ev_const, fset_apply, Nat.reduceEqDiff, ↓reduceIte, decide_true, decide_false, ht, ff_74]; done)))
              exact WK.skipNil (Or.inl ⟨rfl, hok1, rfl, rfl, rfl, rfl, rfl⟩)
  rintro ⟨f, n2, H2⟩ ⟨rfl, rfl, rfl, f5, f6, f7⟩
  simp only at f5 f6 f7
  have hok2 : digsB h 1 9 = true ∧ (t.all isD = true ∧ t.length ≤ 6) := by
    have hh := hok.symm
    simp only [Bool.and_eq_true, Bool.or_eq_true, Bool.not_eq_true'] at hh
    refine ⟨hh.1.1, ?_⟩
    rcases hh.2 with h1 | h1
    · rw [hnd h1]; exact ⟨rfl, Nat.zero_le _⟩
    · obtain ⟨a, _, b⟩ := digsB_len (lo := 1) (hi := 6) h1
      exact ⟨a, b⟩
  obtain ⟨hd, hta, htl6⟩ := hok2
  obtain ⟨hda, hd1, hd2⟩ := digsB_len (lo := 1) (hi := 9) hd
  obtain ⟨hq, hq63⟩ := quo_ok hda hta hd2 htl6
  have hq' : FloatKind.f64.format.div (Format.nearest double false (valL (h ++ t)) 0) (Format.nearest double false (10 ^ t.length) 0) = some (quo h t) := hq
  have mx1 : (IntKind.i64.max < ((h.length + t.length : Nat) : Int)) = False := by
    simp only [eq_iff_iff, iff_false]
    have : IntKind.i64.max = 9223372036854775807 := rfl
    omega
  have mx2 : (IntKind.i64.max < ((0 + 1 + (zs t.length).length : Nat) : Int)) = False := by
    simp only [eq_iff_iff, iff_false]
    have : IntKind.i64.max = 9223372036854775807 := rfl
    unfold zs
    rw [List.length_replicate]
    omega
  have mx3 := mx2
  rw [Nat.zero_add] at mx3
  repeat (first | apply WK.seq | apply WK.block | apply WK.skipSeq | apply WK.skipBlock | apply WK.retSeq | apply WK.retBlock | apply WK.exitSeq | apply WK.exitHere | refine WK.exitOn rfl ?_ | ((first | (refine WK.rgn ?_ ?_; kernel_rfl) | refine AtCall.now ?_); simp (config := { maxSteps := 1000000 }) only [SS, qx12, forall_const, vun, Int.reduceEq, Int.reduceNeg, Nat.reduceGT, Nat.reduceLT, Nat.reduceLeDiff, Nat.reduceEqDiff, ↓reduceIte, reduceCtorEq, Int.reduceToNat, Int.reduceLE, Int.reduceLT, Nat.reduceAdd, Nat.reduceMul, f6, f7, BAS, ba_size, ba_app, mx1, ff_74]) | (refine WK.condT ?_ ?_; focus (simp only [ev_tmp, ev_const, fset_apply, Nat.reduceEqDiff, ↓reduceIte, decide_true, decide_false, f6, f7, BAS, ba_size, ba_app, mx1, ff_74]; done)) | (refine WK.condF ?_ ?_; focus (simp only [ev_tmp, ev_const, fset_apply, Nat.reduceEqDiff, ↓reduceIte, decide_true, decide_false, f6, f7, BAS, ba_size, ba_app, mx1, ff_74]; done)))
  refine AtCall.by (whole_gives (h ++ t) (by rw [List.length_append]; omega) (by rw [List.all_append, hda, hta]; rfl) _ _) ?_
  rintro v n' H' hk ⟨rfl, rfl, rfl⟩
  simp (config := { maxSteps := 1000000 }) only [SS, qx12, forall_const, vun, Int.reduceEq, Int.reduceNeg, Nat.reduceGT, Nat.reduceLT, Nat.reduceLeDiff, Nat.reduceEqDiff, ↓reduceIte, reduceCtorEq, Int.reduceToNat, Int.reduceLE, Int.reduceLT, Nat.reduceAdd, Nat.reduceMul, f6, f7, BAS, ba_size, ff_74]
  refine AtCall.by (rep_gives t.length htl6 _ _) ?_
  rintro v n' H' hk ⟨rfl, rfl, rfl⟩
  simp (config := { maxSteps := 1000000 }) only [SS, qx12, forall_const, vun, Int.reduceEq, Int.reduceNeg, Nat.reduceGT, Nat.reduceLT, Nat.reduceLeDiff, Nat.reduceEqDiff, ↓reduceIte, reduceCtorEq, Int.reduceToNat, Int.reduceLE, Int.reduceLT, Nat.reduceAdd, Nat.reduceMul, f6, f7, BAS, ba_size, ba_app, mx2, mx3, ff_74]
  refine AtCall.by (whole_gives (49 :: zs t.length) (by unfold zs; rw [List.length_cons, List.length_replicate]; omega) (ten_digs _) _ _) ?_
  rintro v n' H' hk ⟨rfl, rfl, rfl⟩
  rw [val_ten]
  simp (config := { maxSteps := 1000000 }) only [SS, qx12, forall_const, vun, Int.reduceEq, Int.reduceNeg, Nat.reduceGT, Nat.reduceLT, Nat.reduceLeDiff, Nat.reduceEqDiff, ↓reduceIte, reduceCtorEq, Int.reduceToNat, Int.reduceLE, Int.reduceLT, Nat.reduceAdd, Nat.reduceMul, hq', ff_74]
  cases neg with
  | false =>
    repeat (first | apply WK.seq | apply WK.block | apply WK.skipSeq | apply WK.skipBlock | apply WK.retSeq | apply WK.retBlock | apply WK.exitSeq | apply WK.exitHere | refine WK.exitOn rfl ?_ | ((first | (refine WK.rgn ?_ ?_; kernel_rfl) | refine AtCall.now ?_); simp (config := { maxSteps := 1000000 }) only [SS, qx12, forall_const, vun, Int.reduceEq, Int.reduceNeg, Nat.reduceGT, Nat.reduceLT, Nat.reduceLeDiff, Nat.reduceEqDiff, ↓reduceIte, reduceCtorEq, Int.reduceToNat, Int.reduceLE, Int.reduceLT, Nat.reduceAdd, Nat.reduceMul, f5, ff_74]) | (refine WK.condT ?_ ?_; focus (simp only [ev_tmp, ev_const, fset_apply, Nat.reduceEqDiff, ↓reduceIte, decide_true, decide_false, f5, ff_74]; done)) | (refine WK.condF ?_ ?_; focus (simp only [ev_tmp, ev_const, fset_apply, Nat.reduceEqDiff, ↓reduceIte, decide_true, decide_false, f5, ff_74]; done)))
    (first | refine WK.retNil ⟨Or.inr rfl, _, rfl, ?_, ?_⟩ | refine WK.skipNil ⟨Or.inl rfl, _, rfl, ?_, ?_⟩)
    · exact fun _ _ => rfl
    · simp only [packed, fset_apply, Nat.reduceEqDiff, ↓reduceIte, List.getD_cons_zero, List.getD_cons_succ, hfw, ff_74]
      simp
  | true =>
    repeat (first | apply WK.seq | apply WK.block | apply WK.skipSeq | apply WK.skipBlock | apply WK.retSeq | apply WK.retBlock | apply WK.exitSeq | apply WK.exitHere | refine WK.exitOn rfl ?_ | ((first | (refine WK.rgn ?_ ?_; kernel_rfl) | refine AtCall.now ?_); simp (config := { maxSteps := 1000000 }) only [SS, qx12, forall_const, vun, Int.reduceEq, Int.reduceNeg, Nat.reduceGT, Nat.reduceLT, Nat.reduceLeDiff, Nat.reduceEqDiff, ↓reduceIte, reduceCtorEq, Int.reduceToNat, Int.reduceLE, Int.reduceLT, Nat.reduceAdd, Nat.reduceMul, f5, ff_74]) | (refine WK.condT ?_ ?_; focus (simp only [ev_tmp, ev_const, fset_apply, Nat.reduceEqDiff, ↓reduceIte, decide_true, decide_false, f5, ff_74]; done)) | (refine WK.condF ?_ ?_; focus (simp only [ev_tmp, ev_const, fset_apply, Nat.reduceEqDiff, ↓reduceIte, decide_true, decide_false, f5, ff_74]; done)))
    refine AtCall.by (copysign_gives _ hq63 _ _) ?_
    rintro v n' H' hk ⟨rfl, rfl, rfl⟩
    simp (config := { maxSteps := 1000000 }) only [SS, qx12, forall_const, vun, Int.reduceEq, Int.reduceNeg, Nat.reduceGT, Nat.reduceLT, Nat.reduceLeDiff, Nat.reduceEqDiff, ↓reduceIte, reduceCtorEq, Int.reduceToNat, Int.reduceLE, Int.reduceLT, Nat.reduceAdd, Nat.reduceMul, ff_74]
    repeat (first | apply WK.seq | apply WK.block | apply WK.skipSeq | apply WK.skipBlock | apply WK.retSeq | apply WK.retBlock | apply WK.exitSeq | apply WK.exitHere | refine WK.exitOn rfl ?_ | ((first | (refine WK.rgn ?_ ?_; kernel_rfl) | refine AtCall.now ?_); simp (config := { maxSteps := 1000000 }) only [SS, qx12, forall_const, vun, Int.reduceEq, Int.reduceNeg, Nat.reduceGT, Nat.reduceLT, Nat.reduceLeDiff, Nat.reduceEqDiff, ↓reduceIte, reduceCtorEq, Int.reduceToNat, Int.reduceLE, Int.reduceLT, Nat.reduceAdd, Nat.reduceMul, ff_74]) | (refine WK.condT ?_ ?_; focus (simp only [ev_tmp, ev_const, fset_apply, Nat.reduceEqDiff, ↓reduceIte, decide_true, decide_false, ff_74]; done)) | (refine WK.condF ?_ ?_; focus (simp only [ev_tmp, ev_const, fset_apply, Nat.reduceEqDiff, ↓reduceIte, decide_true, decide_false, ff_74]; done)))
    (first | refine WK.retNil ⟨Or.inr rfl, _, rfl, ?_, ?_⟩ | refine WK.skipNil ⟨Or.inl rfl, _, rfl, ?_, ?_⟩)
    · exact fun _ _ => rfl
    · simp only [packed, fset_apply, Nat.reduceEqDiff, ↓reduceIte, List.getD_cons_zero, List.getD_cons_succ, hfw, ff_74]
      simp
end Go.Proofs.YtihjaobjhmmboaaGreatDoor

namespace Go.Proofs.YtihjaobjhmmboaaGreatDoor
open Go.AM Ieee
set_option maxRecDepth 100000
theorem isD_iff (b : UInt8) : isD b = true ↔ 48 ≤ b.toNat ∧ b.toNat ≤ 57 := by unfold isD; simp
theorem ok_facts {l : List UInt8} (h : okE l = true) : (hs l).all isD = true ∧ 1 ≤ (hs l).length ∧ (hs l).length ≤ 9 ∧ lead0 (hs l) = false ∧ (ts l).all isD = true ∧ (ts l).length ≤ 6 ∧ (hasDot (cutM l) = true ∧ 1 ≤ (ts l).length ∨ hasDot (cutM l) = false ∧ ts l = []) := by
 unfold okE at h
 simp only [Bool.and_eq_true, Bool.or_eq_true, Bool.not_eq_true'] at h
 obtain ⟨⟨h1, h2⟩, h3⟩ := h
 obtain ⟨a, b, c⟩ := digsB_len (lo := 1) (hi := 9) h1
 refine ⟨a, b, c, h2, ?_⟩
 rcases h3 with h3 | h3
 ·have e : ts l = [] := (head_all _ h3).2
  rw [e]
  exact ⟨rfl, Nat.zero_le _, .inr ⟨h3, rfl⟩⟩
 ·obtain ⟨d, e, f⟩ := digsB_len (lo := 1) (hi := 6) h3
  refine ⟨d, f, .inl ⟨?_, e⟩⟩
  cases hd : hasDot (cutM l) with
  | true => rfl
  | false =>
   have e' : ts l = [] := (head_all _ hd).2
   rw [e'] at e; simp at e
def trimZ (t : List UInt8) : List UInt8 := (t.reverse.dropWhile (· == 48)).reverse
theorem drop_rep (a : UInt8) (k : Nat) (l : List UInt8) (h : l.head? ≠ some a) : (List.replicate k a ++ l).dropWhile (· == a) = l := by
 induction k with
 | zero =>
  cases l with
  | nil => rfl
  | cons b l =>
   have : (b == a) = false := by simpa using h
   simp [this]
 | succ k ih => simp [List.replicate_succ, ih]
theorem trim_take {t : List UInt8} {r : Nat} (hr : r ≤ t.length) (h1 : ∀ j, r ≤ j → ∀ b, t[j]? = some b → b = 48) (h2 : r = 0 ∨ ∃ b, t[r - 1]? = some b ∧ b ≠ 48) : t.take r = trimZ t := by
 have e : t = t.take r ++ List.replicate (t.length - r) 48 := by
  apply List.ext_getElem?
  intro j
  by_cases hj : j < r
  ·rw [List.getElem?_append_left (by rw [List.length_take]; omega), List.getElem?_take, if_pos hj]
  ·rw [List.getElem?_append_right (by rw [List.length_take]; omega), List.length_take, Nat.min_eq_left hr]
   by_cases hjl : j < t.length
   ·rw [List.getElem?_replicate, if_pos (by omega), List.getElem?_eq_getElem hjl]
    exact congrArg some (h1 j (by omega) _ (List.getElem?_eq_getElem hjl))
   ·rw [List.getElem?_eq_none (by omega), List.getElem?_replicate, if_neg (by omega)]
 have e2 : t.reverse = List.replicate (t.length - r) 48 ++ (t.take r).reverse := by
  rw [← List.reverse_replicate, ← List.reverse_append, ← e]
 unfold trimZ
 rw [e2, drop_rep, List.reverse_reverse]
 rw [List.head?_reverse, List.getLast?_eq_getElem?, List.length_take, Nat.min_eq_left hr]
 rcases h2 with h2 | ⟨b, hb, hb48⟩
 ·subst h2; simp
 ·by_cases h0 : r = 0
  ·subst h0; simp
  ·rw [List.getElem?_take, if_pos (by omega), hb]
   simpa using hb48
def shortL (l : List UInt8) : List UInt8 := if okE l then (if hasMinus l then [45] else []) ++ hs l ++ (if trimZ (ts l) = [] then [] else 46 :: trimZ (ts l)) else l
end Go.Proofs.YtihjaobjhmmboaaGreatDoor
