/- A part of a proof. Its conditions: none. -/
import Derived.Test.YtddpnhhgmfaloaaDoorAmEFmt
import Derived.Test.YtddpnhhgmfaloaaDoorAmEShort
import Derived.Test.YtddpnhhgmfaloaaDoorAmEDigits
import Derived.Test.YtddpnhhgmfaloaaDoorAmSolo
import Derived.Test.YtddpnhhgmfaloaaDoorAmDecS
set_option linter.all false
namespace Go.Proofs.YtddpnhhgmfaloaaDoor
open Go.AM
set_option maxRecDepth 100000

/-- A double's word: sign, exponent field, fraction. -/
def word (neg : Bool) (E F : Nat) : Nat := (if neg then 9223372036854775808 else 0) + E * 4503599627370496 + F

theorem ext_f64 (b : Nat) : aext Tryd.prog 58 [.float .f64 b] = some (.int .u64 b) := by
  have h : (match Tryd.prog.funcs[58]? with | some fn => fn.body.isNone && fn.origin == "" && (fn.name == "math.Float64bits" || fn.name == "internal/strconv.float64bits") | none => false) = true := by kernel_rfl
  unfold aext
  cases hf : Tryd.prog.funcs[58]? with
  | none => rw [hf] at h; cases h
  | some fn =>
    rw [hf] at h
    simp at h
    simp [hf, h]

theorem ft1 : IntKind.i64.wrap (11 + 52) = 63 := rfl
theorem ft2 : min 63 IntKind.u64.bits = 63 := rfl
theorem ft3 : min 52 IntKind.u64.bits = 52 := rfl
theorem ft4 : min 11 IntKind.i64.bits = 11 := rfl
theorem ft5 : IntKind.i64.wrap (1 * 2 ^ 11) = 2048 := rfl
theorem ft6 : IntKind.i64.wrap (2048 - 1) = 2047 := rfl
theorem ft7 : IntKind.u64.wrap (1 * 2 ^ 52) = 4503599627370496 := rfl
theorem ft8 : IntKind.u64.wrap (4503599627370496 - 1) = 4503599627370495 := rfl
theorem nb63 : ((63 : Int) < 0) = False := by simp
theorem nb52 : ((52 : Int) < 0) = False := by simp
theorem word_facts {neg : Bool} {E F b : Nat} (hb : b = word neg E F) (hE : E ≤ 2046) (hF : F < 4503599627370496) :
    b < 18446744073709551616 ∧ (b : Int).fdiv (2 ^ 63) = (neg.toNat : Int) ∧ (b : Int).fdiv (2 ^ 52) = ((b / 2 ^ 52 : Nat) : Int) ∧ IntKind.i64.wrap ((b / 2 ^ 52 : Nat) : Int) = ((b / 2 ^ 52 : Nat) : Int) ∧
      IntKind.i64.wrap (BitVec.ofInt IntKind.i64.bits ((b / 2 ^ 52 : Nat) : Int) &&& BitVec.ofInt IntKind.i64.bits 2047).toNat = (E : Int) ∧
      IntKind.u64.wrap (BitVec.ofInt IntKind.u64.bits (b : Int) &&& BitVec.ofInt IntKind.u64.bits 4503599627370495).toNat = (F : Int) := by
  have h1 : b < 18446744073709551616 := by rw [hb]; unfold word; cases neg <;> simp <;> omega
  have hq : b / 2 ^ 52 < 4096 := by omega
  refine ⟨h1, ?_, shr_nat b 52, wrap_i64n _ (by omega), ?_, ?_⟩
  · rw [shr_nat]
    congr 1
    rw [hb]; unfold word; cases neg <;> simp <;> omega
  · have := and_i64 (b / 2 ^ 52) 2047 (by omega) (by omega)
    have h' : IntKind.i64.wrap (BitVec.ofInt IntKind.i64.bits ((b / 2 ^ 52 : Nat) : Int) &&& BitVec.ofInt IntKind.i64.bits 2047).toNat = ((b / 2 ^ 52 &&& 2047 : Nat) : Int) := this
    rw [h', show (2047 : Nat) = 2 ^ 11 - 1 by rfl, and_mask]
    congr 1
    rw [hb]; unfold word; cases neg <;> simp <;> omega
  · have := and_u64 b 4503599627370495 h1 (by omega)
    have h' : IntKind.u64.wrap (BitVec.ofInt IntKind.u64.bits (b : Int) &&& BitVec.ofInt IntKind.u64.bits 4503599627370495).toNat = ((b &&& 4503599627370495 : Nat) : Int) := this
    rw [h', show (4503599627370495 : Nat) = 2 ^ 52 - 1 by rfl, and_mask]
    congr 1
    rw [hb]; unfold word; cases neg <;> simp <;> omega

set_option maxHeartbeats 4000000 in
theorem ftoa_zero {y0 b : Nat} {neg : Bool} (hb : b = word neg 0 0) {n : Nat} {H : Heap} (hy0 : H y0 = .cells [] 5 true) (hyn : y0 < n) :
    GivesX Tryd.prog (fun z => z = y0) 50 [.slice (some ⟨y0, 0, none⟩) 0 0, .float .f64 b, .int .u8 102, .int .i64 (-1)] n H fun v n' H' =>
      ∃ y, v = .slice (some ⟨y, 0, none⟩) (fmtS neg (fun _ => 0) 0 0 (-1)).length (fmtS neg (fun _ => 0) 0 0 (-1)).length ∧ H' y = .cells ((fmtS neg (fun _ => 0) 0 0 (-1)).map bv) 5 true := by
  refine GivesX.of orders ok50 (Nat.le_of_ble_eq_true rfl) ?_
-- function 50
  obtain ⟨hb1, fS, f52, fw, fE, fF⟩ := word_facts hb (by omega) (by omega)
  rw [show ((0 : Nat) : Int) = 0 from rfl] at fE fF
  have z1 : ((0 : Int) = 2047) = False := by simp
  cases neg
  · rw [show ((false.toNat : Nat) : Int) = 0 from rfl] at fS
    repeat (first | apply WK.seq | apply WK.block | apply WK.skipSeq | apply WK.skipBlock | apply WK.retSeq | apply WK.retBlock | apply WK.exitSeq | apply WK.exitHere | refine WK.exitOn rfl ?_ | ((first | (refine WK.rgn ?_ ?_; kernel_rfl) | refine AtCall.now ?_); simp (config := { maxSteps := 1000000 }) only [SS, forall_const, wx, tguard, acallee, top, tval, fput, tor, vsh, vbin, vconv, vun, tload, tload2, tload3, tfa, tfa2, tpick, textr, talloc, still, still1, flat1, one, tsl, tsl2, tsl3, tsl4, tsl5, Go.AM.bound, tap, tap2, tap3, tap4, tsrc, tsrc2, Int.reduceEq, Int.reduceNeg, Nat.reduceGT, Nat.reduceLT, Nat.reduceLeDiff, Nat.reduceEqDiff, ↓reduceIte, reduceCtorEq, Int.reduceToNat, Int.reduceLE, Int.reduceLT, Nat.reduceAdd, Nat.reduceMul, ext_f64, ft1, ft2, ft3, ft4, ft5, ft6, ft7, ft8, nb63, nb52, nb11, fS, f52, fw, fE, fF, z1, ff_50]) | (refine WK.condT ?_ ?_; focus (simp only [ev_tmp, ev_const, fset_apply, Nat.reduceEqDiff, ↓reduceIte, decide_true, decide_false, ext_f64, ft1, ft2, ft3, ft4, ft5, ft6, ft7, ft8, nb63, nb52, nb11, fS, f52, fw, fE, fF, z1, ff_50]; done)) | (refine WK.condF ?_ ?_; focus (simp only [ev_tmp, ev_const, fset_apply, Nat.reduceEqDiff, ↓reduceIte, decide_true, decide_false, ext_f64, ft1, ft2, ft3, ft4, ft5, ft6, ft7, ft8, nb63, nb52, nb11, fS, f52, fw, fE, fF, z1, ff_50]; done)))
    refine AtCall.byX (fmt_gives (x := 0) (y0 := y0) (Ls := 0) (nd := 0) (neg := false) (dg := fun _ => 0) (dp := 0) (prec := -1) (cs := []) (tyb := 0) hy0 hyn (by omega) (by omega) (by omega) (by omega) (by omega) true) ?_
    rintro v n1 H1 kx ⟨y, rfl, hy⟩
    simp (config := { maxSteps := 1000000 }) only [SS, forall_const, wx, tguard, acallee, top, tval, fput, tor, vsh, vbin, vconv, vun, tload, tload2, tload3, tfa, tfa2, tpick, textr, talloc, still, still1, flat1, one, tsl, tsl2, tsl3, tsl4, tsl5, Go.AM.bound, tap, tap2, tap3, tap4, tsrc, tsrc2, Int.reduceEq, Int.reduceNeg, Nat.reduceGT, Nat.reduceLT, Nat.reduceLeDiff, Nat.reduceEqDiff, ↓reduceIte, reduceCtorEq, Int.reduceToNat, Int.reduceLE, Int.reduceLT, Nat.reduceAdd, Nat.reduceMul, ff_50]
    repeat (first | apply WK.seq | apply WK.block | apply WK.skipSeq | apply WK.skipBlock | apply WK.retSeq | apply WK.retBlock | apply WK.exitSeq | apply WK.exitHere | refine WK.exitOn rfl ?_ | ((first | (refine WK.rgn ?_ ?_; kernel_rfl) | refine AtCall.now ?_); simp (config := { maxSteps := 1000000 }) only [SS, forall_const, wx, tguard, acallee, top, tval, fput, tor, vsh, vbin, vconv, vun, tload, tload2, tload3, tfa, tfa2, tpick, textr, talloc, still, still1, flat1, one, tsl, tsl2, tsl3, tsl4, tsl5, Go.AM.bound, tap, tap2, tap3, tap4, tsrc, tsrc2, Int.reduceEq, Int.reduceNeg, Nat.reduceGT, Nat.reduceLT, Nat.reduceLeDiff, Nat.reduceEqDiff, ↓reduceIte, reduceCtorEq, Int.reduceToNat, Int.reduceLE, Int.reduceLT, Nat.reduceAdd, Nat.reduceMul, ff_50]) | (refine WK.condT ?_ ?_; focus (simp only [ev_tmp, ev_const, fset_apply, Nat.reduceEqDiff, ↓reduceIte, decide_true, decide_false, ff_50]; done)) | (refine WK.condF ?_ ?_; focus (simp only [ev_tmp, ev_const, fset_apply, Nat.reduceEqDiff, ↓reduceIte, decide_true, decide_false, ff_50]; done)))
    refine WK.retNil ⟨Or.inr rfl, _, rfl, fun z hz hzx => kx.keep z hz hzx, ?_⟩
    simp only [packed, fset_apply, Nat.reduceEqDiff, ↓reduceIte, List.getD_cons_zero, List.getD_cons_succ, ff_50]
    exact ⟨y, rfl, hy⟩
  · rw [show ((true.toNat : Nat) : Int) = 1 from rfl] at fS
    repeat (first | apply WK.seq | apply WK.block | apply WK.skipSeq | apply WK.skipBlock | apply WK.retSeq | apply WK.retBlock | apply WK.exitSeq | apply WK.exitHere | refine WK.exitOn rfl ?_ | ((first | (refine WK.rgn ?_ ?_; kernel_rfl) | refine AtCall.now ?_); simp (config := { maxSteps := 1000000 }) only [SS, forall_const, wx, tguard, acallee, top, tval, fput, tor, vsh, vbin, vconv, vun, tload, tload2, tload3, tfa, tfa2, tpick, textr, talloc, still, still1, flat1, one, tsl, tsl2, tsl3, tsl4, tsl5, Go.AM.bound, tap, tap2, tap3, tap4, tsrc, tsrc2, Int.reduceEq, Int.reduceNeg, Nat.reduceGT, Nat.reduceLT, Nat.reduceLeDiff, Nat.reduceEqDiff, ↓reduceIte, reduceCtorEq, Int.reduceToNat, Int.reduceLE, Int.reduceLT, Nat.reduceAdd, Nat.reduceMul, ext_f64, ft1, ft2, ft3, ft4, ft5, ft6, ft7, ft8, nb63, nb52, nb11, fS, f52, fw, fE, fF, z1, ff_50]) | (refine WK.condT ?_ ?_; focus (simp only [ev_tmp, ev_const, fset_apply, Nat.reduceEqDiff, ↓reduceIte, decide_true, decide_false, ext_f64, ft1, ft2, ft3, ft4, ft5, ft6, ft7, ft8, nb63, nb52, nb11, fS, f52, fw, fE, fF, z1, ff_50]; done)) | (refine WK.condF ?_ ?_; focus (simp only [ev_tmp, ev_const, fset_apply, Nat.reduceEqDiff, ↓reduceIte, decide_true, decide_false, ext_f64, ft1, ft2, ft3, ft4, ft5, ft6, ft7, ft8, nb63, nb52, nb11, fS, f52, fw, fE, fF, z1, ff_50]; done)))
    refine AtCall.byX (fmt_gives (x := 0) (y0 := y0) (Ls := 0) (nd := 0) (neg := true) (dg := fun _ => 0) (dp := 0) (prec := -1) (cs := []) (tyb := 0) hy0 hyn (by omega) (by omega) (by omega) (by omega) (by omega) true) ?_
    rintro v n1 H1 kx ⟨y, rfl, hy⟩
    simp (config := { maxSteps := 1000000 }) only [SS, forall_const, wx, tguard, acallee, top, tval, fput, tor, vsh, vbin, vconv, vun, tload, tload2, tload3, tfa, tfa2, tpick, textr, talloc, still, still1, flat1, one, tsl, tsl2, tsl3, tsl4, tsl5, Go.AM.bound, tap, tap2, tap3, tap4, tsrc, tsrc2, Int.reduceEq, Int.reduceNeg, Nat.reduceGT, Nat.reduceLT, Nat.reduceLeDiff, Nat.reduceEqDiff, ↓reduceIte, reduceCtorEq, Int.reduceToNat, Int.reduceLE, Int.reduceLT, Nat.reduceAdd, Nat.reduceMul, ff_50]
    repeat (first | apply WK.seq | apply WK.block | apply WK.skipSeq | apply WK.skipBlock | apply WK.retSeq | apply WK.retBlock | apply WK.exitSeq | apply WK.exitHere | refine WK.exitOn rfl ?_ | ((first | (refine WK.rgn ?_ ?_; kernel_rfl) | refine AtCall.now ?_); simp (config := { maxSteps := 1000000 }) only [SS, forall_const, wx, tguard, acallee, top, tval, fput, tor, vsh, vbin, vconv, vun, tload, tload2, tload3, tfa, tfa2, tpick, textr, talloc, still, still1, flat1, one, tsl, tsl2, tsl3, tsl4, tsl5, Go.AM.bound, tap, tap2, tap3, tap4, tsrc, tsrc2, Int.reduceEq, Int.reduceNeg, Nat.reduceGT, Nat.reduceLT, Nat.reduceLeDiff, Nat.reduceEqDiff, ↓reduceIte, reduceCtorEq, Int.reduceToNat, Int.reduceLE, Int.reduceLT, Nat.reduceAdd, Nat.reduceMul, ff_50]) | (refine WK.condT ?_ ?_; focus (simp only [ev_tmp, ev_const, fset_apply, Nat.reduceEqDiff, ↓reduceIte, decide_true, decide_false, ff_50]; done)) | (refine WK.condF ?_ ?_; focus (simp only [ev_tmp, ev_const, fset_apply, Nat.reduceEqDiff, ↓reduceIte, decide_true, decide_false, ff_50]; done)))
    refine WK.retNil ⟨Or.inr rfl, _, rfl, fun z hz hzx => kx.keep z hz hzx, ?_⟩
    simp only [packed, fset_apply, Nat.reduceEqDiff, ↓reduceIte, List.getD_cons_zero, List.getD_cons_succ, ff_50]
    exact ⟨y, rfl, hy⟩

/-- What is printed of d * 10 ^ -p. -/
def outS (neg : Bool) (d nz p : Nat) : List Nat := fmtS neg (fun q => 48 + lft d (numD d) q) nz ((numD d : Int) - p) (max ((nz : Int) - ((numD d : Int) - p)) 0)
def Trim (d nz : Nat) : Prop := nz ≤ numD d ∧ (∀ q, nz ≤ q → q < numD d → lft d (numD d) q = 0) ∧ (nz = 0 ∨ lft d (numD d) (nz - 1) ≠ 0)

theorem usc_eq : @uscaleS = @usc := rfl

set_option maxHeartbeats 8000000 in
theorem ftoa_gives {y0 b : Nat} {neg : Bool} {N k M t : Nat} (hk : k ≤ 6) (ht : 23 ≤ t) (ht2 : t ≤ 72) (hM : 2 ^ 52 ≤ M) (hM2 : M < 2 ^ 53) (hN : Near N (10 ^ k) M t) (hN0 : N ≠ 0) (hb : b = word neg (1075 - t) (M - 2 ^ 52)) {n : Nat} {H : Heap} (hy0 : H y0 = .cells [] 5 true) (hyn : y0 < n) (hw : WF n H)
    (h4 : H 4 = .cells pows 124 false) (h3 : H 3 = .cells tens 114 false) :
    GivesX Tryd.prog (fun z => z = y0) 50 [.slice (some ⟨y0, 0, none⟩) 0 0, .float .f64 b, .int .u8 102, .int .i64 (-1)] n H fun v n' H' =>
      ∃ P nz : Nat, 7 ≤ P ∧ P ≤ 23 ∧ Trim (N * 10 ^ (P - 1 - k)) nz ∧ N * 10 ^ (P - 1 - k) < 9223372036854775808 ∧
      ∃ y, v = .slice (some ⟨y, 0, none⟩) (outS neg (N * 10 ^ (P - 1 - k)) nz (P - 1)).length (outS neg (N * 10 ^ (P - 1 - k)) nz (P - 1)).length ∧ H' y = .cells ((outS neg (N * 10 ^ (P - 1 - k)) nz (P - 1)).map bv) 5 true := by
  refine GivesX.of orders ok50 (Nat.le_of_ble_eq_true rfl) ?_
-- function 50
  obtain ⟨E, hE⟩ : ∃ E, 1075 - t = E := ⟨_, rfl⟩
  obtain ⟨F, hF⟩ : ∃ F, M - 2 ^ 52 = F := ⟨_, rfl⟩
  rw [hE, hF] at hb
  obtain ⟨hb1, fS, f52, fw, fE, fF⟩ := word_facts hb (by omega) (by omega)
  have z1 : ((E : Int) = 2047) = False := by simp only [eq_iff_iff, iff_false]; omega
  have z2 : ((E : Int) = 0) = False := by simp only [eq_iff_iff, iff_false]; omega
  have z3 : ((M : Int) = 0) = False := by simp only [eq_iff_iff, iff_false]; omega
  have fM : IntKind.u64.wrap (BitVec.ofInt IntKind.u64.bits (F : Int) ||| BitVec.ofInt IntKind.u64.bits 4503599627370496).toNat = (M : Int) := by
    have h' : IntKind.u64.wrap (BitVec.ofInt IntKind.u64.bits (F : Int) ||| BitVec.ofInt IntKind.u64.bits 4503599627370496).toNat = ((F ||| 4503599627370496 : Nat) : Int) := or_u64 F 4503599627370496 (by omega) (by omega)
    have h2 := or_high F 52 (by omega)
    rw [show (2 : Nat) ^ 52 = 4503599627370496 from rfl] at h2
    exact h'.trans (congrArg Nat.cast (h2.trans (by omega)))
  have fe : IntKind.i64.wrap ((E : Int) + -1023) = 52 - (t : Int) := by rw [wrap_in (by omega) (by omega)]; omega
  have fl : lenN M = 53 := lenN_of (L := 52) hM hM2
  have f64 : IntKind.i64.wrap (64 - ((53 : Nat) : Int)) = 11 := rfl
  have fm : IntKind.u64.wrap ((M : Int) * 2 ^ 11) = ((M * 2048 : Nat) : Int) := by rw [wrap_u64]; omega
  have fe2 : IntKind.i64.wrap (52 - (t : Int) - 11) = 41 - (t : Int) := by rw [wrap_in (by omega) (by omega)]; omega
  have fe3 : IntKind.i64.wrap (41 - (t : Int) - 52) = -(t : Int) - 11 := by rw [wrap_in (by omega) (by omega)]; omega
  obtain ⟨P, sh, mn, hi, hP1, hP2, hsh, hhi, hhiT, hloT, hpow, hnot, hsv, b1, b2, hox, hfirst, hd⟩ := short_math hk ht ht2 hM hM2 hN
  rw [← usc_eq] at b1 b2 hox hfirst hd
  have hng : decide (((neg.toNat : Nat) : Int) = 0) = !neg := by cases neg <;> rfl
  repeat (first | apply WK.seq | apply WK.block | apply WK.skipSeq | apply WK.skipBlock | apply WK.retSeq | apply WK.retBlock | apply WK.exitSeq | apply WK.exitHere | refine WK.exitOn rfl ?_ | ((first | (refine WK.rgn ?_ ?_; kernel_rfl) | refine AtCall.now ?_); simp (config := { maxSteps := 1000000 }) only [SS, forall_const, wx, tguard, acallee, top, tval, fput, tor, vsh, vbin, vconv, vun, tload, tload2, tload3, tfa, tfa2, tpick, textr, talloc, still, still1, flat1, one, tsl, tsl2, tsl3, tsl4, tsl5, Go.AM.bound, tap, tap2, tap3, tap4, tsrc, tsrc2, Int.reduceEq, Int.reduceNeg, Nat.reduceGT, Nat.reduceLT, Nat.reduceLeDiff, Nat.reduceEqDiff, ↓reduceIte, reduceCtorEq, Int.reduceToNat, Int.reduceLE, Int.reduceLT, Nat.reduceAdd, Nat.reduceMul, ext_f64, ft1, ft2, ft3, ft4, ft5, ft6, ft7, ft8, nb63, nb52, nb11, fS, hng, f52, fw, fE, fF, z1, z2, z3, fM, fe, ff_50]) | (refine WK.condT ?_ ?_; focus (simp only [ev_tmp, ev_const, fset_apply, Nat.reduceEqDiff, ↓reduceIte, decide_true, decide_false, ext_f64, ft1, ft2, ft3, ft4, ft5, ft6, ft7, ft8, nb63, nb52, nb11, fS, hng, f52, fw, fE, fF, z1, z2, z3, fM, fe, ff_50]; done)) | (refine WK.condF ?_ ?_; focus (simp only [ev_tmp, ev_const, fset_apply, Nat.reduceEqDiff, ↓reduceIte, decide_true, decide_false, ext_f64, ft1, ft2, ft3, ft4, ft5, ft6, ft7, ft8, nb63, nb52, nb11, fS, hng, f52, fw, fE, fF, z1, z2, z3, fM, fe, ff_50]; done)))
  refine AtCall.by (len_gives M (by omega) _ _) ?_
  rintro v n1 H1 hk1 ⟨rfl, rfl, rfl⟩
  simp (config := { maxSteps := 1000000 }) only [SS, forall_const, wx, tguard, acallee, top, tval, fput, tor, vsh, vbin, vconv, vun, tload, tload2, tload3, tfa, tfa2, tpick, textr, talloc, still, still1, flat1, one, tsl, tsl2, tsl3, tsl4, tsl5, Go.AM.bound, tap, tap2, tap3, tap4, tsrc, tsrc2, Int.reduceEq, Int.reduceNeg, Nat.reduceGT, Nat.reduceLT, Nat.reduceLeDiff, Nat.reduceEqDiff, ↓reduceIte, reduceCtorEq, Int.reduceToNat, Int.reduceLE, Int.reduceLT, Nat.reduceAdd, Nat.reduceMul, fl, f64, ff_50]
  repeat (first | apply WK.seq | apply WK.block | apply WK.skipSeq | apply WK.skipBlock | apply WK.retSeq | apply WK.retBlock | apply WK.exitSeq | apply WK.exitHere | refine WK.exitOn rfl ?_ | ((first | (refine WK.rgn ?_ ?_; kernel_rfl) | refine AtCall.now ?_); simp (config := { maxSteps := 1000000 }) only [SS, forall_const, wx, tguard, acallee, top, tval, fput, tor, vsh, vbin, vconv, vun, tload, tload2, tload3, tfa, tfa2, tpick, textr, talloc, still, still1, flat1, one, tsl, tsl2, tsl3, tsl4, tsl5, Go.AM.bound, tap, tap2, tap3, tap4, tsrc, tsrc2, Int.reduceEq, Int.reduceNeg, Nat.reduceGT, Nat.reduceLT, Nat.reduceLeDiff, Nat.reduceEqDiff, ↓reduceIte, reduceCtorEq, Int.reduceToNat, Int.reduceLE, Int.reduceLT, Nat.reduceAdd, Nat.reduceMul, min11, nb11, fm, fe2, fe3, ff_50]) | (refine WK.condT ?_ ?_; focus (simp only [ev_tmp, ev_const, fset_apply, Nat.reduceEqDiff, ↓reduceIte, decide_true, decide_false, min11, nb11, fm, fe2, fe3, ff_50]; done)) | (refine WK.condF ?_ ?_; focus (simp only [ev_tmp, ev_const, fset_apply, Nat.reduceEqDiff, ↓reduceIte, decide_true, decide_false, min11, nb11, fm, fe2, fe3, ff_50]; done)))
  generalize hzs : ([Value.int .u8 (Int.ofNat 0), Value.int .u8 (Int.ofNat 0), Value.int .u8 (Int.ofNat 0), Value.int .u8 (Int.ofNat 0), Value.int .u8 (Int.ofNat 0), Value.int .u8 (Int.ofNat 0), Value.int .u8 (Int.ofNat 0), Value.int .u8 (Int.ofNat 0), Value.int .u8 (Int.ofNat 0), Value.int .u8 (Int.ofNat 0), Value.int .u8 (Int.ofNat 0), Value.int .u8 (Int.ofNat 0), Value.int .u8 (Int.ofNat 0), Value.int .u8 (Int.ofNat 0), Value.int .u8 (Int.ofNat 0), Value.int .u8 (Int.ofNat 0), Value.int .u8 (Int.ofNat 0), Value.int .u8 (Int.ofNat 0), Value.int .u8 (Int.ofNat 0), Value.int .u8 (Int.ofNat 0), Value.int .u8 (Int.ofNat 0), Value.int .u8 (Int.ofNat 0), Value.int .u8 (Int.ofNat 0), Value.int .u8 (Int.ofNat 0), Value.int .u8 (Int.ofNat 0), Value.int .u8 (Int.ofNat 0), Value.int .u8 (Int.ofNat 0), Value.int .u8 (Int.ofNat 0), Value.int .u8 (Int.ofNat 0), Value.int .u8 (Int.ofNat 0), Value.int .u8 (Int.ofNat 0), Value.int .u8 (Int.ofNat 0)] : List Value) = zs at *
  have hzl : zs.length = 32 := by rw [← hzs]; rfl
  clear hzs
  have hkn := Kp.new n H (.cells zs 87 true)
  have hWF := hkn.wf hw
  have h4a : hset H n (.cells zs 87 true) 4 = .cells pows 124 false := by
    rw [hset_ne _ _ _ (by intro h; rw [h, hw n (Nat.le_refl _)] at h4; cases h4)]; exact h4
  have h3a : hset H n (.cells zs 87 true) 3 = .cells tens 114 false := by
    rw [hset_ne _ _ _ (by intro h; rw [h, hw n (Nat.le_refl _)] at h3; cases h3)]; exact h3
  have hyn1 := hset_at H n (.cells zs 87 true)
  have hya := (hkn.keep y0 hyn).trans hy0
  have g3n : 3 < n + 1 := by
    apply Decidable.byContradiction; intro h; rw [hWF _ (by omega)] at h3a; cases h3a
  generalize hH1 : hset H n (.cells zs 87 true) = H1 at *
  refine AtCall.by (short_gives (M * 2048) (-(t : Int) - 11) P mn (M * 2048 + 1024) (M * 2048 / 2048 % 2) hi 0 sh (by omega) (by omega) (by omega) hpow hnot rfl rfl (by rw [hhiT]; rfl) (by rw [hloT]; rfl) hhi (by omega) hsv hsh b1 b2 hox hfirst hWF h4a) ?_
  rintro v n2 H2 hk2 rfl
  rw [hd]
  have hdb : N * 10 ^ (P - 1 - k) < 9223372036854775808 := by rw [← hd]; omega
  generalize hdd : N * 10 ^ (P - 1 - k) = d at *
  have h3b := (hk2.keep _ g3n).trans h3a
  have hyn2 := (hk2.keep n (by omega)).trans hyn1
  have hyb := (hk2.keep y0 (by omega)).trans hya
  have hle2 := hk2.le
  simp (config := { maxSteps := 1000000 }) only [SS, forall_const, wx, tguard, acallee, top, tval, fput, tor, vsh, vbin, vconv, vun, tload, tload2, tload3, tfa, tfa2, tpick, textr, talloc, still, still1, flat1, one, tsl, tsl2, tsl3, tsl4, tsl5, Go.AM.bound, tap, tap2, tap3, tap4, tsrc, tsrc2, Int.reduceEq, Int.reduceNeg, Nat.reduceGT, Nat.reduceLT, Nat.reduceLeDiff, Nat.reduceEqDiff, ↓reduceIte, reduceCtorEq, Int.reduceToNat, Int.reduceLE, Int.reduceLT, Nat.reduceAdd, Nat.reduceMul, ff_50]
  repeat (first | apply WK.seq | apply WK.block | apply WK.skipSeq | apply WK.skipBlock | apply WK.retSeq | apply WK.retBlock | apply WK.exitSeq | apply WK.exitHere | refine WK.exitOn rfl ?_)
  have hml : (32 ≤ maxLen) = True := by simp [maxLen]
  (refine WK.rgs [true, true, true, true, true, false] (by kernel_rfl) (by kernel_rfl) ?_; simp (config := { maxSteps := 1000000 }) only [wz, SS, forall_const, wx, tguard, acallee, top, tval, fput, tor, vsh, vbin, vconv, vun, tload, tload2, tload3, tfa, tfa2, tpick, textr, talloc, still, still1, flat1, one, tsl, tsl2, tsl3, tsl4, tsl5, Go.AM.bound, tap, tap2, tap3, tap4, tsrc, tsrc2, Int.reduceEq, Int.reduceNeg, Nat.reduceGT, Nat.reduceLT, Nat.reduceLeDiff, Nat.reduceEqDiff, ↓reduceIte, reduceCtorEq, Int.reduceToNat, Int.reduceLE, Int.reduceLT, Nat.reduceAdd, Nat.reduceMul, hyn2, hzl, hml, ff_50])
  refine AtCall.by (digits_gives d hdb h3b) ?_
  rintro v n3 H3 hk3 ⟨rfl, rfl, rfl⟩
  simp (config := { maxSteps := 1000000 }) only [SS, forall_const, wx, tguard, acallee, top, tval, fput, tor, vsh, vbin, vconv, vun, tload, tload2, tload3, tfa, tfa2, tpick, textr, talloc, still, still1, flat1, one, tsl, tsl2, tsl3, tsl4, tsl5, Go.AM.bound, tap, tap2, tap3, tap4, tsrc, tsrc2, Int.reduceEq, Int.reduceNeg, Nat.reduceGT, Nat.reduceLT, Nat.reduceLeDiff, Nat.reduceEqDiff, ↓reduceIte, reduceCtorEq, Int.reduceToNat, Int.reduceLE, Int.reduceLT, Nat.reduceAdd, Nat.reduceMul, wz, ff_50]
  have hd0 : d ≠ 0 := by
    rw [← hdd]; exact Nat.mul_ne_zero hN0 (Nat.pos_iff_ne_zero.1 (Nat.pow_pos (by omega)))
  obtain ⟨nd1, nd2, nd3, nd4⟩ := numD_spec hd0 hdb
  obtain ⟨nd, hnd⟩ : ∃ nd, numD d = nd := ⟨_, rfl⟩
  rw [hnd] at nd1 nd2 nd3 nd4
  simp only [hnd]
  refine AtCall.byX (setDigits_gives (x := n) (L := 32) (d := d) (nd := nd) (p := -((P : Int) - 1)) hyn2 hzl.symm (by omega) (by omega) (by omega) nd2 (by omega)) ?_
  rintro v n4 H4 kx4 ⟨rfl, cs, nz, rfl, hcs, hcl, hget, hnz, htrim, hlast⟩
  have hyc := (kx4.keep y0 (by omega) (by omega)).trans hyb
  obtain ⟨dp, hdp⟩ : ∃ dp, (nd : Int) + -((P : Int) - 1) = dp := ⟨_, rfl⟩
  rw [hdp]
  have wdp : IntKind.i64.wrap ((nz : Int) - dp) = (nz : Int) - dp := by rw [wrap_in (by omega) (by omega)]
  obtain ⟨pr, hpr⟩ : ∃ pr, (if (nz : Int) - dp < 0 then 0 else (nz : Int) - dp) = pr := ⟨_, rfl⟩
  simp (config := { maxSteps := 1000000 }) only [SS, forall_const, wx, tguard, acallee, top, tval, fput, tor, vsh, vbin, vconv, vun, tload, tload2, tload3, tfa, tfa2, tpick, textr, talloc, still, still1, flat1, one, tsl, tsl2, tsl3, tsl4, tsl5, Go.AM.bound, tap, tap2, tap3, tap4, tsrc, tsrc2, Int.reduceEq, Int.reduceNeg, Nat.reduceGT, Nat.reduceLT, Nat.reduceLeDiff, Nat.reduceEqDiff, ↓reduceIte, reduceCtorEq, Int.reduceToNat, Int.reduceLE, Int.reduceLT, Nat.reduceAdd, Nat.reduceMul, wz, ff_50]
  repeat (first | apply WK.seq | apply WK.block | apply WK.skipSeq | apply WK.skipBlock | apply WK.retSeq | apply WK.retBlock | apply WK.exitSeq | apply WK.exitHere | refine WK.exitOn rfl ?_ | ((first | (refine WK.rgn ?_ ?_; kernel_rfl) | refine AtCall.now ?_); simp (config := { maxSteps := 1000000 }) only [SS, forall_const, wx, tguard, acallee, top, tval, fput, tor, vsh, vbin, vconv, vun, tload, tload2, tload3, tfa, tfa2, tpick, textr, talloc, still, still1, flat1, one, tsl, tsl2, tsl3, tsl4, tsl5, Go.AM.bound, tap, tap2, tap3, tap4, tsrc, tsrc2, Int.reduceEq, Int.reduceNeg, Nat.reduceGT, Nat.reduceLT, Nat.reduceLeDiff, Nat.reduceEqDiff, ↓reduceIte, reduceCtorEq, Int.reduceToNat, Int.reduceLE, Int.reduceLT, Nat.reduceAdd, Nat.reduceMul, aop_max, tmm, wdp, hpr, hcs, hcl, hml, ff_50]) | (refine WK.condT ?_ ?_; focus (simp only [ev_tmp, ev_const, fset_apply, Nat.reduceEqDiff, ↓reduceIte, decide_true, decide_false, aop_max, tmm, wdp, hpr, hcs, hcl, hml, ff_50]; done)) | (refine WK.condF ?_ ?_; focus (simp only [ev_tmp, ev_const, fset_apply, Nat.reduceEqDiff, ↓reduceIte, decide_true, decide_false, aop_max, tmm, wdp, hpr, hcs, hcl, hml, ff_50]; done)))
  refine AtCall.byX (fmt_gives (x := n) (y0 := y0) (Ls := 32) (nd := nz) (neg := neg) (dg := fun q => 48 + lft d nd q) (dp := dp) (prec := pr) hyc (by omega) (fun _ => ⟨rfl, hcs, fun q hq => hget q (by omega), by omega, by omega, by omega⟩) (by omega) (by omega) (by rw [← hpr]; split <;> omega) (by rw [← hpr]; split <;> omega) true) ?_
  rintro v n5 H5 kx5 ⟨y, rfl, hy⟩
  simp (config := { maxSteps := 1000000 }) only [SS, forall_const, wx, tguard, acallee, top, tval, fput, tor, vsh, vbin, vconv, vun, tload, tload2, tload3, tfa, tfa2, tpick, textr, talloc, still, still1, flat1, one, tsl, tsl2, tsl3, tsl4, tsl5, Go.AM.bound, tap, tap2, tap3, tap4, tsrc, tsrc2, Int.reduceEq, Int.reduceNeg, Nat.reduceGT, Nat.reduceLT, Nat.reduceLeDiff, Nat.reduceEqDiff, ↓reduceIte, reduceCtorEq, Int.reduceToNat, Int.reduceLE, Int.reduceLT, Nat.reduceAdd, Nat.reduceMul, ff_50]
  repeat (first | apply WK.seq | apply WK.block | apply WK.skipSeq | apply WK.skipBlock | apply WK.retSeq | apply WK.retBlock | apply WK.exitSeq | apply WK.exitHere | refine WK.exitOn rfl ?_ | ((first | (refine WK.rgn ?_ ?_; kernel_rfl) | refine AtCall.now ?_); simp (config := { maxSteps := 1000000 }) only [SS, forall_const, wx, tguard, acallee, top, tval, fput, tor, vsh, vbin, vconv, vun, tload, tload2, tload3, tfa, tfa2, tpick, textr, talloc, still, still1, flat1, one, tsl, tsl2, tsl3, tsl4, tsl5, Go.AM.bound, tap, tap2, tap3, tap4, tsrc, tsrc2, Int.reduceEq, Int.reduceNeg, Nat.reduceGT, Nat.reduceLT, Nat.reduceLeDiff, Nat.reduceEqDiff, ↓reduceIte, reduceCtorEq, Int.reduceToNat, Int.reduceLE, Int.reduceLT, Nat.reduceAdd, Nat.reduceMul, ff_50]) | (refine WK.condT ?_ ?_; focus (simp only [ev_tmp, ev_const, fset_apply, Nat.reduceEqDiff, ↓reduceIte, decide_true, decide_false, ff_50]; done)) | (refine WK.condF ?_ ?_; focus (simp only [ev_tmp, ev_const, fset_apply, Nat.reduceEqDiff, ↓reduceIte, decide_true, decide_false, ff_50]; done)))
  refine WK.retNil ⟨Or.inr rfl, _, rfl, fun z hz hzx => ?_, ?_⟩
  · show H5 z = H z
    rw [kx5.keep z (by omega) hzx, kx4.keep z (by omega) (by omega), hk2.keep z (by omega)]
    exact hkn.keep z hz
  · simp only [packed, fset_apply, Nat.reduceEqDiff, ↓reduceIte, List.getD_cons_zero, List.getD_cons_succ, ff_50]
    have hout : fmtS neg (fun q => 48 + lft d nd q) nz dp pr = outS neg d nz (P - 1) := by
      unfold outS
      have hdp' : (nd : Int) - ((P - 1 : Nat) : Int) = dp := by omega
      have hmx : max ((nz : Int) - dp) 0 = pr := by rw [← hpr]; split <;> omega
      rw [hnd, hdp', hmx]
    rw [hout] at hy ⊢
    refine ⟨P, nz, hP1, hP2, ?_, ?_, y, ?_, ?_⟩
    · rw [hdd]; unfold Trim; rw [hnd]; exact ⟨hnz, htrim, hlast⟩
    · rw [hdd]; exact hdb
    · rw [hdd]
    · rw [hdd]; exact hy
end Go.Proofs.YtddpnhhgmfaloaaDoor
