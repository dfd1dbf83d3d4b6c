/- A part of a proof. Its conditions: none. -/
import Derived.Test.YtihjaobjhmmboaaGreatDoorAmUFtoa
import Derived.Test.YtihjaobjhmmboaaGreatDoorAmUKey
import Derived.Test.YtihjaobjhmmboaaGreatDoorAmC
set_option linter.all false
namespace Go.Proofs.YtihjaobjhmmboaaGreatDoor
open Go.AM Ieee
set_option maxRecDepth 100000
def maxW : Nat := 9218868437227405311
theorem isinf1_gives (b : Nat) (n : Nat) (H : Heap) : Gives Tryz.prog 78 [.float .f64 b, .int .i64 1] n H fun v n' H' => v = .bool (FloatKind.f64.format.order b maxW == some .gt) ∧ n' = n ∧ H' = H := by
 refine Gives.of orders ok78 (Nat.le_of_ble_eq_true rfl) ?_
 have z1 : ((1 : Int) = 0) = False := by simp
 have z2 : ((1 : Int) < 0) = False := by simp
 repeat (first | apply WK.seq | apply WK.block | apply WK.skipSeq | apply WK.skipBlock | apply WK.retSeq | apply WK.retBlock | apply WK.exitSeq | apply WK.exitHere | refine WK.exitOn rfl ?_ | ((first | (refine WK.rgn ?_ ?_; kernel_rfl) | refine AtCall.now ?_); simp (config := { maxSteps := 1000000 }) only [SS, qx8, forall_const, vun, Int.reduceEq, Int.reduceNeg, Nat.reduceGT, Nat.reduceLT, Nat.reduceLeDiff, Nat.reduceEqDiff, ↓reduceIte, reduceCtorEq, Int.reduceToNat, Int.reduceLE, Int.reduceLT, Nat.reduceAdd, Nat.reduceMul, z1, z2, ff_78]) | (refine WK.condT ?_ ?_; focus (simp only [ev_tmp, ev_const, fset_apply, Nat.reduceEqDiff, ↓reduceIte, decide_true, decide_false, z1, z2, ff_78]; done)) | (refine WK.condF ?_ ?_; focus (simp only [ev_tmp, ev_const, fset_apply, Nat.reduceEqDiff, ↓reduceIte, decide_true, decide_false, z1, z2, ff_78]; done)))
 (first | refine WK.retNil ⟨Or.inr rfl, _, rfl, ?_, ?_⟩ | refine WK.skipNil ⟨Or.inl rfl, _, rfl, ?_, ?_⟩)
 ·exact fun _ _ => rfl
 ·simp only [packed, fset_apply, Nat.reduceEqDiff, ↓reduceIte, List.getD_cons_zero, List.getD_cons_succ, ff_78]
  exact ⟨rfl, trivial, trivial⟩
theorem isinf2_gives (b : Nat) (n : Nat) (H : Heap) : Gives Tryz.prog 78 [.float .f64 b, .int .i64 (-1)] n H fun v n' H' => v = .bool (FloatKind.f64.format.order (Op.negFloat .f64 b) maxW == some .gt) ∧ n' = n ∧ H' = H := by
 refine Gives.of orders ok78 (Nat.le_of_ble_eq_true rfl) ?_
 have z1 : ((-1 : Int) = 0) = False := by simp
 have z2 : ((-1 : Int) < 0) = True := by simp
 repeat (first | apply WK.seq | apply WK.block | apply WK.skipSeq | apply WK.skipBlock | apply WK.retSeq | apply WK.retBlock | apply WK.exitSeq | apply WK.exitHere | refine WK.exitOn rfl ?_ | ((first | (refine WK.rgn ?_ ?_; kernel_rfl) | refine AtCall.now ?_); simp (config := { maxSteps := 1000000 }) only [SS, qx8, forall_const, vun, Int.reduceEq, Int.reduceNeg, Nat.reduceGT, Nat.reduceLT, Nat.reduceLeDiff, Nat.reduceEqDiff, ↓reduceIte, reduceCtorEq, Int.reduceToNat, Int.reduceLE, Int.reduceLT, Nat.reduceAdd, Nat.reduceMul, z1, z2, ff_78]) | (refine WK.condT ?_ ?_; focus (simp only [ev_tmp, ev_const, fset_apply, Nat.reduceEqDiff, ↓reduceIte, decide_true, decide_false, z1, z2, ff_78]; done)) | (refine WK.condF ?_ ?_; focus (simp only [ev_tmp, ev_const, fset_apply, Nat.reduceEqDiff, ↓reduceIte, decide_true, decide_false, z1, z2, ff_78]; done)))
 (first | refine WK.retNil ⟨Or.inr rfl, _, rfl, ?_, ?_⟩ | refine WK.skipNil ⟨Or.inl rfl, _, rfl, ?_, ?_⟩)
 ·exact fun _ _ => rfl
 ·simp only [packed, fset_apply, Nat.reduceEqDiff, ↓reduceIte, List.getD_cons_zero, List.getD_cons_succ, ff_78]
  exact ⟨rfl, trivial, trivial⟩
set_option maxHeartbeats 2000000 in
theorem text_nan (b : Nat) (h : realB b = false) (n : Nat) (H : Heap) : Gives Tryz.prog 60 [.float .f64 b] n H fun v n' H' => v = .string ⟨#[110, 97, 110]⟩ ∧ n' = n ∧ H' = H := by
 refine Gives.of orders ok60 (Nat.le_of_ble_eq_true rfl) ?_
 repeat (first | apply WK.seq | apply WK.block | apply WK.skipSeq | apply WK.skipBlock | apply WK.retSeq | apply WK.retBlock | apply WK.exitSeq | apply WK.exitHere | refine WK.exitOn rfl ?_ | ((first | (refine WK.rgn ?_ ?_; kernel_rfl) | refine AtCall.now ?_); simp (config := { maxSteps := 1000000 }) only [SS, qx8, forall_const, Int.reduceEq, Int.reduceNeg, Nat.reduceGT, Nat.reduceLT, Nat.reduceLeDiff, Nat.reduceEqDiff, ↓reduceIte, reduceCtorEq, Int.reduceToNat, Int.reduceLE, Int.reduceLT, Nat.reduceAdd, Nat.reduceMul, bne_realB, h, ff_60]) | (refine WK.condT ?_ ?_; focus (simp only [ev_tmp, ev_const, fset_apply, Nat.reduceEqDiff, ↓reduceIte, decide_true, decide_false, bne_realB, h, ff_60]; done)) | (refine WK.condF ?_ ?_; focus (simp only [ev_tmp, ev_const, fset_apply, Nat.reduceEqDiff, ↓reduceIte, decide_true, decide_false, bne_realB, h, ff_60]; done)))
 (first | refine WK.retNil ⟨Or.inr rfl, _, rfl, ?_, ?_⟩ | refine WK.skipNil ⟨Or.inl rfl, _, rfl, ?_, ?_⟩)
 ·exact fun _ _ => rfl
 ·simp only [packed, fset_apply, Nat.reduceEqDiff, ↓reduceIte, List.getD_cons_zero, List.getD_cons_succ, ff_60]
  exact ⟨trivial, trivial, trivial⟩
theorem order_max {neg : Bool} {E F : Nat} (hE : E ≤ 2046) (hF : F < 4503599627370496) : (FloatKind.f64.format.order (word neg E F) maxW == some .gt) = false := by
 have hr : Format.read double maxW = .number false 9007199254740991 971 := by kernel_rfl
 have hle : ∀ (s : Bool) (m : Nat) (e : Int), m ≤ 9007199254740991 → -1074 ≤ e → e ≤ 971 → ((Datum.number s m e).order (.number false 9007199254740991 971) == some .gt) = false := by
  intro s m e hm h1 h2
  have hb : min e 971 = e := by omega
  simp only [Datum.order, hb]
  have h0 : (e - e).toNat = 0 := by omega
  have a : signed s m (e - e).toNat ≤ 9007199254740991 := by
   rw [h0]; unfold signed; cases s <;> simp <;> omega
  have b : (9007199254740991 : Int) ≤ signed false 9007199254740991 (971 - e).toNat := by
   unfold signed
   rw [Nat.shiftLeft_eq]
   have := Nat.mul_le_mul_left 9007199254740991 (Nat.one_le_two_pow (n := (971 - e).toNat))
   simp only [Bool.false_eq_true, if_false]
   omega
  generalize signed s m (e - e).toNat = x at a
  generalize signed false 9007199254740991 (971 - e).toNat = y at b
  have : compare x y ≠ .gt := fun h => by have := Int.compare_eq_gt.1 h; omega
  cases hc : compare x y <;> first | rfl | exact absurd hc this
 show (Datum.order (Format.read double (word neg E F)) (Format.read double maxW) == some .gt) = false
 rw [hr, read_word]
 have h63 : word neg E F % 9223372036854775808 = E * 4503599627370496 + F := by unfold word; cases neg <;> simp <;> omega
 rw [h63]
 split
 ·exact hle _ _ _ (by omega) (by omega) (by omega)
 ·rw [if_pos (by omega)]
  exact hle _ _ _ (by omega) (by omega) (by omega)
def toBA (out : List Nat) : ByteArray := ⟨(out.map UInt8.ofNat).toArray⟩
theorem bytes_bv : ∀ out : List Nat, bytesOf (out.map bv) = some (out.map Int.ofNat) := by
 intro out
 induction out with
 | nil => rfl
 | cons a out ih =>
  simp only [List.map_cons, bytesOf, ih]
  rfl
theorem astr {H : Heap} {y : Nat} {out : List Nat} (h : H y = .cells (out.map bv) 5 true) : astring Tryz.prog 78 9 H (.slice (some ⟨y, 0, none⟩) out.length out.length) = some { v := .string (toBA out), rd := [y] } := by
 have h1 : Tryz.prog.underlying 78 = some (.slice 5) := by kernel_rfl
 have h2 : Tryz.prog.underlying 9 = some .string := by kernel_rfl
 have h3 : Tryz.prog.underlying 5 = some (.int .u8) := by kernel_rfl
 unfold astring
 simp only [h1, h2, h3, h]
 rw [if_pos (by simp)]
 rw [List.drop_zero, List.take_of_length_le (by simp), bytes_bv]
 simp only [Option.map_some, strNums, toBA, List.map_map]
 rfl
set_option maxHeartbeats 2000000 in
theorem format_of {b n : Nat} {H : Heap} {R : List Nat → Prop} (hft : ∀ H1, H1 n = .cells [] 5 true → WF (n + 1) H1 → (∀ x, x < n → H1 x = H x) → GivesX Tryz.prog (fun z => z = n) 110 [.slice (some ⟨n, 0, none⟩) 0 0, .float .f64 b, .int .u8 102, .int .i64 (-1)] (n + 1) H1 fun v n' H' =>
   ∃ out, R out ∧ ∃ y, v = .slice (some ⟨y, 0, none⟩) out.length out.length ∧ H' y = .cells (out.map bv) 5 true) (hw : WF n H) :
  Gives Tryz.prog 99 [.float .f64 b, .int .u8 102, .int .i64 (-1), .int .i64 64] n H fun v n' H' => ∃ out, R out ∧ v = .string (toBA out) := by
 refine Gives.of orders ok99 (Nat.le_of_ble_eq_true rfl) ?_
 have w1 : IntKind.i64.wrap (-1 + 4) = 3 := rfl
 have w2 : (if (3 : Int) < 24 then (24 : Int) else 3) = 24 := rfl
 have hbg : ((24 : Int) ≤ (bigN : Int)) = True := by simp [bigN]
 repeat (first | apply WK.seq | apply WK.block | apply WK.skipSeq | apply WK.skipBlock | apply WK.retSeq | apply WK.retBlock | apply WK.exitSeq | apply WK.exitHere | refine WK.exitOn rfl ?_ | ((first | (refine WK.rgn ?_ ?_; kernel_rfl) | refine AtCall.now ?_); simp (config := { maxSteps := 1000000 }) only [SS, forall_const, wx, tguard, acallee, top, tval, fput, tor, vsh, vbin, vconv, tmake, Int.reduceEq, Int.reduceNeg, Nat.reduceGT, Nat.reduceLT, Nat.reduceLeDiff, Nat.reduceEqDiff, ↓reduceIte, reduceCtorEq, Int.reduceToNat, Int.reduceLE, Int.reduceLT, Nat.reduceAdd, Nat.reduceMul, w1, w2, aop_max, tmm, hbg, ff_99]) | (refine WK.condT ?_ ?_; focus (simp only [ev_tmp, ev_const, fset_apply, Nat.reduceEqDiff, ↓reduceIte, decide_true, decide_false, w1, w2, aop_max, tmm, hbg, ff_99]; done)) | (refine WK.condF ?_ ?_; focus (simp only [ev_tmp, ev_const, fset_apply, Nat.reduceEqDiff, ↓reduceIte, decide_true, decide_false, w1, w2, aop_max, tmm, hbg, ff_99]; done)))
 have hkn := Kp.new n H (.cells [] 5 true)
 refine AtCall.byX (hft _ (hset_at _ _ _) (hkn.wf hw) (fun x hx => hkn.keep x hx)) ?_
 rintro v n2 H2 kx ⟨out, hR, y, rfl, hy⟩
 have ha := astr hy
 simp (config := { maxSteps := 1000000 }) only [SS, forall_const, wx, tguard, acallee, top, tval, fput, tor, vsh, vbin, vconv, tmake, Int.reduceEq, Int.reduceNeg, Nat.reduceGT, Nat.reduceLT, Nat.reduceLeDiff, Nat.reduceEqDiff, ↓reduceIte, reduceCtorEq, Int.reduceToNat, Int.reduceLE, Int.reduceLT, Nat.reduceAdd, Nat.reduceMul, aop_cv, acv, ha, ff_99]
 repeat (first | apply WK.seq | apply WK.block | apply WK.skipSeq | apply WK.skipBlock | apply WK.retSeq | apply WK.retBlock | apply WK.exitSeq | apply WK.exitHere | refine WK.exitOn rfl ?_ | ((first | (refine WK.rgn ?_ ?_; kernel_rfl) | refine AtCall.now ?_); simp (config := { maxSteps := 1000000 }) only [SS, forall_const, wx, tguard, acallee, top, tval, fput, tor, vsh, vbin, vconv, tmake, Int.reduceEq, Int.reduceNeg, Nat.reduceGT, Nat.reduceLT, Nat.reduceLeDiff, Nat.reduceEqDiff, ↓reduceIte, reduceCtorEq, Int.reduceToNat, Int.reduceLE, Int.reduceLT, Nat.reduceAdd, Nat.reduceMul, aop_cv, acv, ha, ff_99]) | (refine WK.condT ?_ ?_; focus (simp only [ev_tmp, ev_const, fset_apply, Nat.reduceEqDiff, ↓reduceIte, decide_true, decide_false, aop_cv, acv, ha, ff_99]; done)) | (refine WK.condF ?_ ?_; focus (simp only [ev_tmp, ev_const, fset_apply, Nat.reduceEqDiff, ↓reduceIte, decide_true, decide_false, aop_cv, acv, ha, ff_99]; done)))
 (first | refine WK.retNil ⟨Or.inr rfl, _, rfl, ?_, ?_⟩ | refine WK.skipNil ⟨Or.inl rfl, _, rfl, ?_, ?_⟩)
 ·intro z hz
  show H2 z = H z
  rw [kx.keep z (by omega) (by omega)]; exact hkn.keep z hz
 ·simp only [packed, fset_apply, Nat.reduceEqDiff, ↓reduceIte, List.getD_cons_zero, List.getD_cons_succ, ff_99]
  exact ⟨out, hR, rfl⟩
set_option maxHeartbeats 2000000 in
theorem format2_of {b n : Nat} {H : Heap} {R : List Nat → Prop} (h : Gives Tryz.prog 99 [.float .f64 b, .int .u8 102, .int .i64 (-1), .int .i64 64] n H fun v n' H' => ∃ out, R out ∧ v = .string (toBA out)) :
  Gives Tryz.prog 79 [.float .f64 b, .int .u8 102, .int .i64 (-1), .int .i64 64] n H fun v n' H' => ∃ out, R out ∧ v = .string (toBA out) := by
 refine Gives.of orders ok79 (Nat.le_of_ble_eq_true rfl) ?_
 repeat (first | apply WK.seq | apply WK.block | apply WK.skipSeq | apply WK.skipBlock | apply WK.retSeq | apply WK.retBlock | apply WK.exitSeq | apply WK.exitHere | refine WK.exitOn rfl ?_ | ((first | (refine WK.rgn ?_ ?_; kernel_rfl) | refine AtCall.now ?_); simp (config := { maxSteps := 1000000 }) only [SS, qx41, forall_const, Int.reduceEq, Int.reduceNeg, Nat.reduceGT, Nat.reduceLT, Nat.reduceLeDiff, Nat.reduceEqDiff, ↓reduceIte, reduceCtorEq, Int.reduceToNat, Int.reduceLE, Int.reduceLT, Nat.reduceAdd, Nat.reduceMul]) | (refine WK.condT ?_ ?_; focus (simp only [ev_tmp, ev_const, fset_apply, Nat.reduceEqDiff, ↓reduceIte, decide_true, decide_false]; done)) | (refine WK.condF ?_ ?_; focus (simp only [ev_tmp, ev_const, fset_apply, Nat.reduceEqDiff, ↓reduceIte, decide_true, decide_false]; done)))
 refine AtCall.by h ?_
 rintro v n2 H2 hk ⟨out, hR, rfl⟩
 simp (config := { maxSteps := 1000000 }) only [SS, qx41, forall_const, Int.reduceEq, Int.reduceNeg, Nat.reduceGT, Nat.reduceLT, Nat.reduceLeDiff, Nat.reduceEqDiff, ↓reduceIte, reduceCtorEq, Int.reduceToNat, Int.reduceLE, Int.reduceLT, Nat.reduceAdd, Nat.reduceMul]
 repeat (first | apply WK.seq | apply WK.block | apply WK.skipSeq | apply WK.skipBlock | apply WK.retSeq | apply WK.retBlock | apply WK.exitSeq | apply WK.exitHere | refine WK.exitOn rfl ?_ | ((first | (refine WK.rgn ?_ ?_; kernel_rfl) | refine AtCall.now ?_); simp (config := { maxSteps := 1000000 }) only [SS, qx41, forall_const, Int.reduceEq, Int.reduceNeg, Nat.reduceGT, Nat.reduceLT, Nat.reduceLeDiff, Nat.reduceEqDiff, ↓reduceIte, reduceCtorEq, Int.reduceToNat, Int.reduceLE, Int.reduceLT, Nat.reduceAdd, Nat.reduceMul]) | (refine WK.condT ?_ ?_; focus (simp only [ev_tmp, ev_const, fset_apply, Nat.reduceEqDiff, ↓reduceIte, decide_true, decide_false]; done)) | (refine WK.condF ?_ ?_; focus (simp only [ev_tmp, ev_const, fset_apply, Nat.reduceEqDiff, ↓reduceIte, decide_true, decide_false]; done)))
 (first | refine WK.retNil ⟨Or.inr rfl, _, rfl, ?_, ?_⟩ | refine WK.skipNil ⟨Or.inl rfl, _, rfl, ?_, ?_⟩)
 ·exact fun z hz => hk.keep z hz
 ·simp only [packed, fset_apply, Nat.reduceEqDiff, ↓reduceIte, List.getD_cons_zero, List.getD_cons_succ]
  exact ⟨out, hR, rfl⟩
set_option maxHeartbeats 2000000 in
theorem text_fin {b n : Nat} {H : Heap} {R : List Nat → Prop} (h1 : realB b = true) (h2 : (FloatKind.f64.format.order b maxW == some .gt) = false) (h3 : (FloatKind.f64.format.order (Op.negFloat .f64 b) maxW == some .gt) = false)
  (h : ∀ n' H', Kp n H n' H' → Gives Tryz.prog 99 [.float .f64 b, .int .u8 102, .int .i64 (-1), .int .i64 64] n' H' fun v n' H' => ∃ out, R out ∧ v = .string (toBA out)) :
  Gives Tryz.prog 60 [.float .f64 b] n H fun v n' H' => ∃ out, R out ∧ v = .string (toBA out) := by
 refine Gives.of orders ok60 (Nat.le_of_ble_eq_true rfl) ?_
 repeat (first | apply WK.seq | apply WK.block | apply WK.skipSeq | apply WK.skipBlock | apply WK.retSeq | apply WK.retBlock | apply WK.exitSeq | apply WK.exitHere | refine WK.exitOn rfl ?_ | ((first | (refine WK.rgn ?_ ?_; kernel_rfl) | refine AtCall.now ?_); simp (config := { maxSteps := 1000000 }) only [SS, qx8, forall_const, Int.reduceEq, Int.reduceNeg, Nat.reduceGT, Nat.reduceLT, Nat.reduceLeDiff, Nat.reduceEqDiff, ↓reduceIte, reduceCtorEq, Int.reduceToNat, Int.reduceLE, Int.reduceLT, Nat.reduceAdd, Nat.reduceMul, bne_realB, h1, ff_60]) | (refine WK.condT ?_ ?_; focus (simp only [ev_tmp, ev_const, fset_apply, Nat.reduceEqDiff, ↓reduceIte, decide_true, decide_false, bne_realB, h1, ff_60]; done)) | (refine WK.condF ?_ ?_; focus (simp only [ev_tmp, ev_const, fset_apply, Nat.reduceEqDiff, ↓reduceIte, decide_true, decide_false, bne_realB, h1, ff_60]; done)))
 refine AtCall.by (isinf1_gives b _ _) ?_
 rintro v n2 H2 hk ⟨rfl, rfl, rfl⟩
 simp (config := { maxSteps := 1000000 }) only [SS, qx8, forall_const, Int.reduceEq, Int.reduceNeg, Nat.reduceGT, Nat.reduceLT, Nat.reduceLeDiff, Nat.reduceEqDiff, ↓reduceIte, reduceCtorEq, Int.reduceToNat, Int.reduceLE, Int.reduceLT, Nat.reduceAdd, Nat.reduceMul, h2, ff_60]
 repeat (first | apply WK.seq | apply WK.block | apply WK.skipSeq | apply WK.skipBlock | apply WK.retSeq | apply WK.retBlock | apply WK.exitSeq | apply WK.exitHere | refine WK.exitOn rfl ?_ | ((first | (refine WK.rgn ?_ ?_; kernel_rfl) | refine AtCall.now ?_); simp (config := { maxSteps := 1000000 }) only [SS, qx8, forall_const, Int.reduceEq, Int.reduceNeg, Nat.reduceGT, Nat.reduceLT, Nat.reduceLeDiff, Nat.reduceEqDiff, ↓reduceIte, reduceCtorEq, Int.reduceToNat, Int.reduceLE, Int.reduceLT, Nat.reduceAdd, Nat.reduceMul, h2, ff_60]) | (refine WK.condT ?_ ?_; focus (simp only [ev_tmp, ev_const, fset_apply, Nat.reduceEqDiff, ↓reduceIte, decide_true, decide_false, h2, ff_60]; done)) | (refine WK.condF ?_ ?_; focus (simp only [ev_tmp, ev_const, fset_apply, Nat.reduceEqDiff, ↓reduceIte, decide_true, decide_false, h2, ff_60]; done)))
 refine AtCall.by (isinf2_gives b _ _) ?_
 rintro v n2 H2 hk ⟨rfl, rfl, rfl⟩
 simp (config := { maxSteps := 1000000 }) only [SS, qx8, forall_const, Int.reduceEq, Int.reduceNeg, Nat.reduceGT, Nat.reduceLT, Nat.reduceLeDiff, Nat.reduceEqDiff, ↓reduceIte, reduceCtorEq, Int.reduceToNat, Int.reduceLE, Int.reduceLT, Nat.reduceAdd, Nat.reduceMul, h3, ff_60]
 repeat (first | apply WK.seq | apply WK.block | apply WK.skipSeq | apply WK.skipBlock | apply WK.retSeq | apply WK.retBlock | apply WK.exitSeq | apply WK.exitHere | refine WK.exitOn rfl ?_ | ((first | (refine WK.rgn ?_ ?_; kernel_rfl) | refine AtCall.now ?_); simp (config := { maxSteps := 1000000 }) only [SS, qx8, forall_const, Int.reduceEq, Int.reduceNeg, Nat.reduceGT, Nat.reduceLT, Nat.reduceLeDiff, Nat.reduceEqDiff, ↓reduceIte, reduceCtorEq, Int.reduceToNat, Int.reduceLE, Int.reduceLT, Nat.reduceAdd, Nat.reduceMul, h3, ff_60]) | (refine WK.condT ?_ ?_; focus (simp only [ev_tmp, ev_const, fset_apply, Nat.reduceEqDiff, ↓reduceIte, decide_true, decide_false, h3, ff_60]; done)) | (refine WK.condF ?_ ?_; focus (simp only [ev_tmp, ev_const, fset_apply, Nat.reduceEqDiff, ↓reduceIte, decide_true, decide_false, h3, ff_60]; done)))
 refine AtCall.by (format2_of (h _ _ hk)) ?_
 rintro v n2 H2 hk ⟨out, hR, rfl⟩
 simp (config := { maxSteps := 1000000 }) only [SS, qx8, forall_const, Int.reduceEq, Int.reduceNeg, Nat.reduceGT, Nat.reduceLT, Nat.reduceLeDiff, Nat.reduceEqDiff, ↓reduceIte, reduceCtorEq, Int.reduceToNat, Int.reduceLE, Int.reduceLT, Nat.reduceAdd, Nat.reduceMul, ff_60]
 repeat (first | apply WK.seq | apply WK.block | apply WK.skipSeq | apply WK.skipBlock | apply WK.retSeq | apply WK.retBlock | apply WK.exitSeq | apply WK.exitHere | refine WK.exitOn rfl ?_ | ((first | (refine WK.rgn ?_ ?_; kernel_rfl) | refine AtCall.now ?_); simp (config := { maxSteps := 1000000 }) only [SS, qx8, forall_const, Int.reduceEq, Int.reduceNeg, Nat.reduceGT, Nat.reduceLT, Nat.reduceLeDiff, Nat.reduceEqDiff, ↓reduceIte, reduceCtorEq, Int.reduceToNat, Int.reduceLE, Int.reduceLT, Nat.reduceAdd, Nat.reduceMul, ff_60]) | (refine WK.condT ?_ ?_; focus (simp only [ev_tmp, ev_const, fset_apply, Nat.reduceEqDiff, ↓reduceIte, decide_true, decide_false, ff_60]; done)) | (refine WK.condF ?_ ?_; focus (simp only [ev_tmp, ev_const, fset_apply, Nat.reduceEqDiff, ↓reduceIte, decide_true, decide_false, ff_60]; done)))
 (first | refine WK.retNil ⟨Or.inr rfl, _, rfl, ?_, ?_⟩ | refine WK.skipNil ⟨Or.inl rfl, _, rfl, ?_, ?_⟩)
 ·exact fun z hz => hk.keep z hz
 ·simp only [packed, fset_apply, Nat.reduceEqDiff, ↓reduceIte, List.getD_cons_zero, List.getD_cons_succ, ff_60]
  exact ⟨out, hR, rfl⟩
set_option maxHeartbeats 2000000 in
theorem text_inf (n : Nat) (H : Heap) : Gives Tryz.prog 60 [.float .f64 0x7FF0000000000000] n H fun v n' H' => v = .string ⟨#[105, 110, 102]⟩ ∧ n' = n ∧ H' = H := by
 have h1 : realB 0x7FF0000000000000 = true := by kernel_rfl
 have h2 : (FloatKind.f64.format.order 0x7FF0000000000000 maxW == some .gt) = true := by kernel_rfl
 refine Gives.of orders ok60 (Nat.le_of_ble_eq_true rfl) ?_
 repeat (first | apply WK.seq | apply WK.block | apply WK.skipSeq | apply WK.skipBlock | apply WK.retSeq | apply WK.retBlock | apply WK.exitSeq | apply WK.exitHere | refine WK.exitOn rfl ?_ | ((first | (refine WK.rgn ?_ ?_; kernel_rfl) | refine AtCall.now ?_); simp (config := { maxSteps := 1000000 }) only [SS, qx8, forall_const, Int.reduceEq, Int.reduceNeg, Nat.reduceGT, Nat.reduceLT, Nat.reduceLeDiff, Nat.reduceEqDiff, ↓reduceIte, reduceCtorEq, Int.reduceToNat, Int.reduceLE, Int.reduceLT, Nat.reduceAdd, Nat.reduceMul, bne_realB, h1, ff_60]) | (refine WK.condT ?_ ?_; focus (simp only [ev_tmp, ev_const, fset_apply, Nat.reduceEqDiff, ↓reduceIte, decide_true, decide_false, bne_realB, h1, ff_60]; done)) | (refine WK.condF ?_ ?_; focus (simp only [ev_tmp, ev_const, fset_apply, Nat.reduceEqDiff, ↓reduceIte, decide_true, decide_false, bne_realB, h1, ff_60]; done)))
 refine AtCall.by (isinf1_gives _ _ _) ?_
 rintro v n2 H2 hk ⟨rfl, rfl, rfl⟩
 simp (config := { maxSteps := 1000000 }) only [SS, qx8, forall_const, Int.reduceEq, Int.reduceNeg, Nat.reduceGT, Nat.reduceLT, Nat.reduceLeDiff, Nat.reduceEqDiff, ↓reduceIte, reduceCtorEq, Int.reduceToNat, Int.reduceLE, Int.reduceLT, Nat.reduceAdd, Nat.reduceMul, h2, ff_60]
 repeat (first | apply WK.seq | apply WK.block | apply WK.skipSeq | apply WK.skipBlock | apply WK.retSeq | apply WK.retBlock | apply WK.exitSeq | apply WK.exitHere | refine WK.exitOn rfl ?_ | ((first | (refine WK.rgn ?_ ?_; kernel_rfl) | refine AtCall.now ?_); simp (config := { maxSteps := 1000000 }) only [SS, qx8, forall_const, Int.reduceEq, Int.reduceNeg, Nat.reduceGT, Nat.reduceLT, Nat.reduceLeDiff, Nat.reduceEqDiff, ↓reduceIte, reduceCtorEq, Int.reduceToNat, Int.reduceLE, Int.reduceLT, Nat.reduceAdd, Nat.reduceMul, h2, ff_60]) | (refine WK.condT ?_ ?_; focus (simp only [ev_tmp, ev_const, fset_apply, Nat.reduceEqDiff, ↓reduceIte, decide_true, decide_false, h2, ff_60]; done)) | (refine WK.condF ?_ ?_; focus (simp only [ev_tmp, ev_const, fset_apply, Nat.reduceEqDiff, ↓reduceIte, decide_true, decide_false, h2, ff_60]; done)))
 (first | refine WK.retNil ⟨Or.inr rfl, _, rfl, ?_, ?_⟩ | refine WK.skipNil ⟨Or.inl rfl, _, rfl, ?_, ?_⟩)
 ·exact fun z hz => hk.keep z hz
 ·simp only [packed, fset_apply, Nat.reduceEqDiff, ↓reduceIte, List.getD_cons_zero, List.getD_cons_succ, ff_60]
  exact ⟨trivial, trivial, trivial⟩
theorem text_ninf (n : Nat) (H : Heap) : Gives Tryz.prog 60 [.float .f64 0xFFF0000000000000] n H fun v n' H' => v = .string ⟨#[45, 105, 110, 102]⟩ ∧ n' = n ∧ H' = H := by
 have h1 : realB 0xFFF0000000000000 = true := by kernel_rfl
 have h2 : (FloatKind.f64.format.order 0xFFF0000000000000 maxW == some .gt) = false := by kernel_rfl
 have h3 : (FloatKind.f64.format.order (Op.negFloat .f64 0xFFF0000000000000) maxW == some .gt) = true := by kernel_rfl
 refine Gives.of orders ok60 (Nat.le_of_ble_eq_true rfl) ?_
 repeat (first | apply WK.seq | apply WK.block | apply WK.skipSeq | apply WK.skipBlock | apply WK.retSeq | apply WK.retBlock | apply WK.exitSeq | apply WK.exitHere | refine WK.exitOn rfl ?_ | ((first | (refine WK.rgn ?_ ?_; kernel_rfl) | refine AtCall.now ?_); simp (config := { maxSteps := 1000000 }) only [SS, qx8, forall_const, Int.reduceEq, Int.reduceNeg, Nat.reduceGT, Nat.reduceLT, Nat.reduceLeDiff, Nat.reduceEqDiff, ↓reduceIte, reduceCtorEq, Int.reduceToNat, Int.reduceLE, Int.reduceLT, Nat.reduceAdd, Nat.reduceMul, bne_realB, h1, ff_60]) | (refine WK.condT ?_ ?_; focus (simp only [ev_tmp, ev_const, fset_apply, Nat.reduceEqDiff, ↓reduceIte, decide_true, decide_false, bne_realB, h1, ff_60]; done)) | (refine WK.condF ?_ ?_; focus (simp only [ev_tmp, ev_const, fset_apply, Nat.reduceEqDiff, ↓reduceIte, decide_true, decide_false, bne_realB, h1, ff_60]; done)))
 refine AtCall.by (isinf1_gives _ _ _) ?_
 rintro v n2 H2 hk ⟨rfl, rfl, rfl⟩
 simp (config := { maxSteps := 1000000 }) only [SS, qx8, forall_const, Int.reduceEq, Int.reduceNeg, Nat.reduceGT, Nat.reduceLT, Nat.reduceLeDiff, Nat.reduceEqDiff, ↓reduceIte, reduceCtorEq, Int.reduceToNat, Int.reduceLE, Int.reduceLT, Nat.reduceAdd, Nat.reduceMul, h2, ff_60]
 repeat (first | apply WK.seq | apply WK.block | apply WK.skipSeq | apply WK.skipBlock | apply WK.retSeq | apply WK.retBlock | apply WK.exitSeq | apply WK.exitHere | refine WK.exitOn rfl ?_ | ((first | (refine WK.rgn ?_ ?_; kernel_rfl) | refine AtCall.now ?_); simp (config := { maxSteps := 1000000 }) only [SS, qx8, forall_const, Int.reduceEq, Int.reduceNeg, Nat.reduceGT, Nat.reduceLT, Nat.reduceLeDiff, Nat.reduceEqDiff, ↓reduceIte, reduceCtorEq, Int.reduceToNat, Int.reduceLE, Int.reduceLT, Nat.reduceAdd, Nat.reduceMul, h2, ff_60]) | (refine WK.condT ?_ ?_; focus (simp only [ev_tmp, ev_const, fset_apply, Nat.reduceEqDiff, ↓reduceIte, decide_true, decide_false, h2, ff_60]; done)) | (refine WK.condF ?_ ?_; focus (simp only [ev_tmp, ev_const, fset_apply, Nat.reduceEqDiff, ↓reduceIte, decide_true, decide_false, h2, ff_60]; done)))
 refine AtCall.by (isinf2_gives _ _ _) ?_
 rintro v n2 H2 hk ⟨rfl, rfl, rfl⟩
 simp (config := { maxSteps := 1000000 }) only [SS, qx8, forall_const, Int.reduceEq, Int.reduceNeg, Nat.reduceGT, Nat.reduceLT, Nat.reduceLeDiff, Nat.reduceEqDiff, ↓reduceIte, reduceCtorEq, Int.reduceToNat, Int.reduceLE, Int.reduceLT, Nat.reduceAdd, Nat.reduceMul, h3, ff_60]
 repeat (first | apply WK.seq | apply WK.block | apply WK.skipSeq | apply WK.skipBlock | apply WK.retSeq | apply WK.retBlock | apply WK.exitSeq | apply WK.exitHere | refine WK.exitOn rfl ?_ | ((first | (refine WK.rgn ?_ ?_; kernel_rfl) | refine AtCall.now ?_); simp (config := { maxSteps := 1000000 }) only [SS, qx8, forall_const, Int.reduceEq, Int.reduceNeg, Nat.reduceGT, Nat.reduceLT, Nat.reduceLeDiff, Nat.reduceEqDiff, ↓reduceIte, reduceCtorEq, Int.reduceToNat, Int.reduceLE, Int.reduceLT, Nat.reduceAdd, Nat.reduceMul, h3, ff_60]) | (refine WK.condT ?_ ?_; focus (simp only [ev_tmp, ev_const, fset_apply, Nat.reduceEqDiff, ↓reduceIte, decide_true, decide_false, h3, ff_60]; done)) | (refine WK.condF ?_ ?_; focus (simp only [ev_tmp, ev_const, fset_apply, Nat.reduceEqDiff, ↓reduceIte, decide_true, decide_false, h3, ff_60]; done)))
 (first | refine WK.retNil ⟨Or.inr rfl, _, rfl, ?_, ?_⟩ | refine WK.skipNil ⟨Or.inl rfl, _, rfl, ?_, ?_⟩)
 ·exact fun z hz => hk.keep z hz
 ·simp only [packed, fset_apply, Nat.reduceEqDiff, ↓reduceIte, List.getD_cons_zero, List.getD_cons_succ, ff_60]
  exact ⟨trivial, trivial, trivial⟩
end Go.Proofs.YtihjaobjhmmboaaGreatDoor

namespace Go.Proofs.YtihjaobjhmmboaaGreatDoor
open Go.AM
set_option maxRecDepth 100000
theorem ust : Tryz.prog.underlying 9 = some .string := by kernel_rfl
theorem c1n : ((1 : Nat) : Int) = 1 := rfl
theorem ba45 : (⟨#[45]⟩ : ByteArray) = BA [45] := rfl
theorem ba46 : (⟨#[46]⟩ : ByteArray) = BA [46] := rfl
theorem ba48 : (⟨#[48]⟩ : ByteArray) = BA [48] := rfl
theorem ba49 : (⟨#[49]⟩ : ByteArray) = BA [49] := rfl
theorem ba0 : (⟨#[]⟩ : ByteArray) = BA [] := rfl
theorem ban : (⟨#[110, 97, 110]⟩ : ByteArray) = BA [110, 97, 110] := rfl
theorem bai : (⟨#[105, 110, 102]⟩ : ByteArray) = BA [105, 110, 102] := rfl
theorem bam : (⟨#[45, 105, 110, 102]⟩ : ByteArray) = BA [45, 105, 110, 102] := rfl
theorem BAS : type_of% (And.intro (And.intro ba45 (And.intro ba46 ba48)) (And.intro (And.intro ba49 (And.intro ba0 ban)) (And.intro bai bam))) := And.intro (And.intro ba45 (And.intro ba46 ba48)) (And.intro (And.intro ba49 (And.intro ba0 ban)) (And.intro bai bam))
def hasMinus (l : List UInt8) : Bool := l.head? == some 45
set_option maxHeartbeats 1000000 in
theorem hasprefc_gives (c : UInt8) (l : List UInt8) (n : Nat) (H : Heap) : Gives Tryz.prog 112 [.string (BA l), .string (BA [c])] n H fun v n' H' => v = .bool (l.head? == some c) ∧ n' = n ∧ H' = H := by
 refine Gives.of orders ok112 (Nat.le_of_ble_eq_true rfl) ?_
 cases l with
 | nil =>
  have z : ((1 : Int) ≤ ((0 : Nat) : Int)) = False := by simp
  repeat (first | refine qqm rfl ?_ | ((first | refine qqr ?_ | refine qqt ?_); simp only [SS, qg0, qgb, qgx, tor, tlen2, tlen3, tpick, simprocAttr, BAS, ba_size, ba_list, ba_ext, aop_ssl, tss, tss2, sbnd, ust, z, ff_112]))
  first | refine qqf ?_ ?_ | refine qqg ?_ ?_
  ·exact fun _ _ => rfl
  ·simp only [packed, qv, Nat.reduceEqDiff, ↓reduceIte, ff_112]
   exact ⟨rfl, trivial, trivial⟩
 | cons a l =>
  have z : ((1 : Int) ≤ ((l.length + 1 : Nat) : Int)) = True := by simp only [eq_iff_iff, iff_true]; omega
  have z2 : 1 ≤ l.length + 1 := by omega
  repeat (first | refine qqm rfl ?_ | ((first | refine qqr ?_ | refine qqt ?_); simp only [SS, qg0, qgb, qgx, tor, tlen2, tlen3, tpick, simprocAttr, BAS, ba_size, ba_list, ba_ext, aop_ssl, tss, tss2, sbnd, ust, z, z2, ff_112]))
  first | refine qqf ?_ ?_ | refine qqg ?_ ?_
  ·exact fun _ _ => rfl
  ·simp only [packed, qv, Nat.reduceEqDiff, ↓reduceIte, ff_112]
   refine ⟨?_, trivial, trivial⟩
   simp
theorem hasprefix_gives (l : List UInt8) (n : Nat) (H : Heap) : Gives Tryz.prog 112 [.string (BA l), .string (BA [45])] n H fun v n' H' => v = .bool (hasMinus l) ∧ n' = n ∧ H' = H := hasprefc_gives 45 l n H
theorem hasprefd_gives (c : UInt8) (l : List UInt8) (n : Nat) (H : Heap) : Gives Tryz.prog 106 [.string (BA l), .string (BA [c])] n H fun v n' H' => v = .bool (l.head? == some c) ∧ n' = n ∧ H' = H := by
 refine Gives.of orders ok106 (Nat.le_of_ble_eq_true rfl) ?_
 repeat (first | refine qqm rfl ?_ | ((first | refine qqr ?_ | refine qqt ?_); simp only [SS, qg0, simprocAttr, BAS]))
 refine AtCall.by (hasprefc_gives c l _ _) ?_
 rintro v n' H' hk ⟨rfl, rfl, rfl⟩
 simp only [SS, qg0, simprocAttr]
 repeat (first | refine qqm rfl ?_ | ((first | refine qqr ?_ | refine qqt ?_); simp only [SS, qg0, simprocAttr]))
 first | refine qqf ?_ ?_ | refine qqg ?_ ?_
 ·exact fun _ _ => rfl
 ·simp only [packed, qv, Nat.reduceEqDiff, ↓reduceIte]
  exact ⟨trivial, trivial, trivial⟩
def cutM (l : List UInt8) : List UInt8 := if hasMinus l then l.tail else l
set_option maxHeartbeats 1000000 in
theorem cutprefix0_gives (l : List UInt8) (n : Nat) (H : Heap) : Gives Tryz.prog 103 [.string (BA l), .string (BA [45])] n H fun v n' H' => v = .tuple #[.string (BA (cutM l)), .bool (hasMinus l)] ∧ n' = n ∧ H' = H := by
 refine Gives.of orders ok103 (Nat.le_of_ble_eq_true rfl) ?_
 repeat (first | refine qqm rfl ?_ | ((first | refine qqr ?_ | refine qqt ?_); simp only [SS, qx39, vun, simprocAttr, BAS, ff_103]))
 refine AtCall.by (hasprefix_gives l _ _) ?_
 rintro v n' H' hk ⟨rfl, rfl, rfl⟩
 unfold cutM
 cases hm : hasMinus l
 ·simp only [SS, qx39, vun, simprocAttr, hm, ff_103]
  repeat (first | refine qqm rfl ?_ | ((first | refine qqr ?_ | refine qqt ?_); simp only [SS, qx39, vun, simprocAttr, hm, ff_103]))
  first | refine qqf ?_ ?_ | refine qqg ?_ ?_
  ·exact fun _ _ => rfl
  ·simp only [packed, qv, Nat.reduceEqDiff, ↓reduceIte, hm, ff_103]
   simp
 ·cases l with
  | nil => simp [hasMinus] at hm
  | cons a l =>
   have z2 : 1 ≤ l.length + 1 := by omega
   simp only [SS, qx39, vun, simprocAttr, hm, ff_103]
   repeat (first | refine qqm rfl ?_ | ((first | refine qqr ?_ | refine qqt ?_); simp only [SS, qx39, vun, simprocAttr, BAS, ba_size, ba_list, ba_ext, aop_ssl, tss, tss2, sbnd, ust, hm, z2, ff_103]))
   first | refine qqf ?_ ?_ | refine qqg ?_ ?_
   ·exact fun _ _ => rfl
   ·simp only [packed, qv, Nat.reduceEqDiff, ↓reduceIte, hm, ff_103]
    simp
theorem cutprefix_gives (l : List UInt8) (n : Nat) (H : Heap) : Gives Tryz.prog 90 [.string (BA l), .string (BA [45])] n H fun v n' H' => v = .tuple #[.string (BA (cutM l)), .bool (hasMinus l)] ∧ n' = n ∧ H' = H := by
 refine Gives.of orders ok90 (Nat.le_of_ble_eq_true rfl) ?_
 repeat (first | refine qqm rfl ?_ | ((first | refine qqr ?_ | refine qqt ?_); simp only [SS, qg0, textr, simprocAttr, BAS]))
 refine AtCall.by (cutprefix0_gives l _ _) ?_
 rintro v n' H' hk ⟨rfl, rfl, rfl⟩
 simp only [SS, qg0, textr, simprocAttr]
 repeat (first | refine qqm rfl ?_ | ((first | refine qqr ?_ | refine qqt ?_); simp only [SS, qg0, textr, simprocAttr]))
 first | refine qqf ?_ ?_ | refine qqg ?_ ?_
 ·exact fun _ _ => rfl
 ·simp only [packed, qv, Nat.reduceEqDiff, ↓reduceIte]
  exact ⟨trivial, trivial, trivial⟩
theorem ext_idx (s : ByteArray) (c : Int) : aext Tryz.prog 158 [.string s, .int .u8 c] = some (.int .i64 (indexB s c)) := by
 have h : (match Tryz.prog.funcs[158]? with | some fn => fn.body.isNone && fn.origin == "" && fn.name == "internal/bytealg.IndexByteString" | none => false) = true := by kernel_rfl
 unfold aext
 cases hf : Tryz.prog.funcs[158]? with
 | none => rw [hf] at h; cases h
 | some fn =>
  rw [hf] at h
  simp at h
  simp [hf, h]
def headL (l : List UInt8) : List UInt8 := l.takeWhile (· != 46)
def tailL (l : List UInt8) : List UInt8 := (l.dropWhile (· != 46)).tail
def hasDot (l : List UInt8) : Bool := l.contains 46
def dotIdx (l : List UInt8) : Int := if hasDot l then ((headL l).length : Int) else -1
theorem head_spec (l : List UInt8) (h : hasDot l = true) : l = headL l ++ 46 :: tailL l := by
  induction l with
  | nil => simp [hasDot] at h
  | cons a l ih =>
    unfold headL tailL
    by_cases ha : a = 46
    · subst ha; simp
    · have hl : hasDot l = true := by
        unfold hasDot at h ⊢
        simp at h ⊢
        rcases h with h | h
        · exact absurd h.symm ha
        · exact h
      have := ih hl
      simp [ha]
      unfold headL tailL at this
      simpa using this
theorem head_none (l : List UInt8) : ∀ x ∈ headL l, x ≠ 46 := by
 intro x hx
 unfold headL at hx
 induction l with
 | nil => simp at hx
 | cons a l ih =>
  by_cases ha : a = 46
  ·subst ha; simp at hx
  ·simp only [List.takeWhile_cons, show (a != 46) = true by simpa using ha, if_true, List.mem_cons] at hx
   rcases hx with rfl | hx
   ·exact ha
   ·exact ih hx
theorem head_all (l : List UInt8) (h : hasDot l = false) : headL l = l ∧ tailL l = [] := by
 induction l with
 | nil => exact ⟨rfl, rfl⟩
 | cons a l ih =>
  unfold hasDot at h
  simp at h
  have hl : hasDot l = false := by unfold hasDot; simpa using h.2
  obtain ⟨h1, h2⟩ := ih hl
  unfold headL tailL at *
  have ha : (a != 46) = true := by simp; exact fun e => h.1 e.symm
  simp only [List.takeWhile_cons, List.dropWhile_cons, ha, if_true, h1, h2]
  exact ⟨trivial, trivial⟩
theorem indexB_eq (l : List UInt8) : indexB (BA l) 46 = dotIdx l := by
 have hg : ∀ i, i < l.length → (BA l)[i]! = l[i]! := by
  intro i hi
  rw [getElem!_pos (BA l) i (by rw [ba_size]; exact hi), getElem!_pos l i hi]; rfl
 unfold indexB dotIdx
 rw [ba_size]
 cases h : hasDot l with
 | true =>
  have hs := head_spec l h
  have hlen : (headL l).length < l.length := by
   have := congrArg List.length hs
   simp only [List.length_append, List.length_cons] at this
   omega
  have : (List.range l.length).find? (fun i => (BA l)[i]! == UInt8.ofNat (46 : Int).toNat) = some (headL l).length := by
   rw [List.find?_range_eq_some]
   refine ⟨?_, List.mem_range.2 hlen, ?_⟩
   ·rw [hg _ hlen, getElem!_pos l _ hlen]
    have : l[(headL l).length]? = some 46 := by
     have h2 : (headL l ++ 46 :: tailL l)[(headL l).length]? = some 46 := by simp
     rwa [← hs] at h2
    rw [List.getElem?_eq_getElem hlen] at this
    rw [Option.some.inj this]; rfl
   ·intro j hj
    rw [hg _ (by omega), getElem!_pos l _ (by omega)]
    have h1 : l[j]? = (headL l)[j]? := by
     have h2 : (headL l ++ 46 :: tailL l)[j]? = (headL l)[j]? := List.getElem?_append_left hj
     rwa [← hs] at h2
    rw [List.getElem?_eq_getElem (by omega), List.getElem?_eq_getElem hj] at h1
    rw [Option.some.inj h1]
    have := head_none l _ (List.getElem_mem hj)
    simp
    exact this
  rw [this]; rfl
 | false =>
  have : (List.range l.length).find? (fun i => (BA l)[i]! == UInt8.ofNat (46 : Int).toNat) = none := by
   rw [List.find?_range_eq_none]
   intro i hi
   rw [hg _ hi, getElem!_pos l _ hi]
   unfold hasDot at h
   simp at h
   simp
   intro e
   exact h (e ▸ List.getElem_mem hi)
  rw [this]; rfl
theorem index0_gives (l : List UInt8) (n : Nat) (H : Heap) : Gives Tryz.prog 132 [.string (BA l), .int .u8 46] n H fun v n' H' => v = .int .i64 (dotIdx l) ∧ n' = n ∧ H' = H := by
 refine Gives.of orders ok132 (Nat.le_of_ble_eq_true rfl) ?_
 repeat (first | refine qqm rfl ?_ | ((first | refine qqr ?_ | refine qqt ?_); simp only [SS, qg0, simprocAttr, ext_idx, indexB_eq]))
 first | refine qqf ?_ ?_ | refine qqg ?_ ?_
 ·exact fun _ _ => rfl
 ·simp only [packed, qv, Nat.reduceEqDiff, ↓reduceIte]
  exact ⟨trivial, trivial, trivial⟩
set_option maxHeartbeats 1000000 in
theorem index_gives (l : List UInt8) (n : Nat) (H : Heap) : Gives Tryz.prog 113 [.string (BA l), .string (BA [46])] n H fun v n' H' => v = .int .i64 (dotIdx l) ∧ n' = n ∧ H' = H := by
 refine Gives.of orders ok113 (Nat.le_of_ble_eq_true rfl) ?_
 by_cases hl : l = [46]
 ·subst hl
  have z : (([46] : List UInt8) == [46]) = true := rfl
  have z1 : ((1 : Int) = 0) = False := by simp
  repeat (first | refine qqm rfl ?_ | ((first | refine qqr ?_ | refine qqt ?_); simp only [SS, qx43, simprocAttr, BAS, ba_size, ba_list, ba_get, ust, c1n, z, z1, ff_113]))
  first | refine qqf ?_ ?_ | refine qqg ?_ ?_
  ·exact fun _ _ => rfl
  ·simp only [packed, qv, Nat.reduceEqDiff, ↓reduceIte, ff_113]
   exact ⟨rfl, trivial, trivial⟩
 ·have z : (([46] : List UInt8) == l) = false := by simpa using fun e => hl e.symm
  have z1 : ((1 : Int) = 0) = False := by simp
  have z2 : (UInt8.toNat 46 : Int) = 46 := rfl
  repeat (first | refine qqm rfl ?_ | ((first | refine qqr ?_ | refine qqt ?_); simp only [SS, qx43, simprocAttr, BAS, ba_size, ba_list, ba_get, ust, c1n, z, z1, z2, ff_113]))
  refine AtCall.by (index0_gives l _ _) ?_
  rintro v n' H' hk ⟨rfl, rfl, rfl⟩
  simp only [SS, qx43, simprocAttr, ff_113]
  repeat (first | refine qqm rfl ?_ | ((first | refine qqr ?_ | refine qqt ?_); simp only [SS, qx43, simprocAttr, ff_113]))
  first | refine qqf ?_ ?_ | refine qqg ?_ ?_
  ·exact fun _ _ => rfl
  ·simp only [packed, qv, Nat.reduceEqDiff, ↓reduceIte, ff_113]
   exact ⟨trivial, trivial, trivial⟩
set_option maxHeartbeats 1000000 in
theorem cut0_gives (l : List UInt8) (hl : l.length ≤ 1000) (n : Nat) (H : Heap) : Gives Tryz.prog 104 [.string (BA l), .string (BA [46])] n H fun v n' H' => v = .tuple #[.string (BA (headL l)), .string (BA (tailL l)), .bool (hasDot l)] ∧ n' = n ∧ H' = H := by
 refine Gives.of orders ok104 (Nat.le_of_ble_eq_true rfl) ?_
 repeat (first | refine qqm rfl ?_ | ((first | refine qqr ?_ | refine qqt ?_); simp only [SS, qx40, simprocAttr, BAS, ff_104]))
 refine AtCall.by (index_gives l _ _) ?_
 rintro v n' H' hk ⟨rfl, rfl, rfl⟩
 cases hd : hasDot l with
 | false =>
  have e : dotIdx l = -1 := by unfold dotIdx; rw [hd]; rfl
  have z : ((0 : Int) ≤ -1) = False := by simp
  obtain ⟨h1, h2⟩ := head_all l hd
  rw [h1, h2]
  simp only [SS, qx40, simprocAttr, e, z, ff_104]
  repeat (first | refine qqm rfl ?_ | ((first | refine qqr ?_ | refine qqt ?_); simp only [SS, qx40, simprocAttr, e, z, BAS, ff_104]))
  first | refine qqf ?_ ?_ | refine qqg ?_ ?_
  ·exact fun _ _ => rfl
  ·simp only [packed, qv, Nat.reduceEqDiff, ↓reduceIte, ff_104]
   exact ⟨trivial, trivial, trivial⟩
 | true =>
  have hs := head_spec l hd
  obtain ⟨k, hk⟩ : ∃ k, (headL l).length = k := ⟨_, rfl⟩
  have e : dotIdx l = (k : Int) := by unfold dotIdx; rw [hd, ← hk]; rfl
  have hlen := congrArg List.length hs
  simp only [List.length_append, List.length_cons, hk] at hlen
  have z : ((0 : Int) ≤ (k : Int)) = True := by simp
  have z1 : IntKind.i64.wrap ((k : Int) + 1) = ((k + 1 : Nat) : Int) := by rw [wrap_in (by omega) (by omega)]; simp
  have z2 : k ≤ l.length := by omega
  have z3 : k + 1 ≤ l.length := by omega
  have t1 : (l.take k).drop 0 = headL l := by
   rw [List.drop_zero]
   have : (headL l ++ 46 :: tailL l).take k = headL l := by rw [← hk]; exact List.take_left
   rwa [← hs] at this
  have t2 : (l.take l.length).drop (k + 1) = tailL l := by
   rw [List.take_length]
   have : (headL l ++ 46 :: tailL l).drop (k + 1) = tailL l := by rw [← hk, ← List.drop_drop, List.drop_left]; rfl
   rwa [← hs] at this
  simp only [SS, qx40, simprocAttr, e, z, z1, ff_104]
  repeat (first | refine qqm rfl ?_ | ((first | refine qqr ?_ | refine qqt ?_); simp only [SS, qx40, simprocAttr, e, z, c1n, BAS, ba_size, ba_list, ba_ext, aop_ssl, tss, tss2, sbnd, ust, z1, z2, z3, t1, t2, Nat.zero_le, Int.natCast_nonneg, Int.toNat_natCast, ff_104]))
  first | refine qqf ?_ ?_ | refine qqg ?_ ?_
  ·exact fun _ _ => rfl
  ·simp only [packed, qv, Nat.reduceEqDiff, ↓reduceIte, ff_104]
   exact ⟨trivial, trivial, trivial⟩
theorem cut_gives (l : List UInt8) (hl : l.length ≤ 1000) (n : Nat) (H : Heap) : Gives Tryz.prog 91 [.string (BA l), .string (BA [46])] n H fun v n' H' => v = .tuple #[.string (BA (headL l)), .string (BA (tailL l)), .bool (hasDot l)] ∧ n' = n ∧ H' = H := by
 refine Gives.of orders ok91 (Nat.le_of_ble_eq_true rfl) ?_
 repeat (first | refine qqm rfl ?_ | ((first | refine qqr ?_ | refine qqt ?_); simp only [SS, qg0, textr, simprocAttr, BAS]))
 refine AtCall.by (cut0_gives l hl _ _) ?_
 rintro v n' H' hk ⟨rfl, rfl, rfl⟩
 simp only [SS, qg0, textr, simprocAttr]
 repeat (first | refine qqm rfl ?_ | ((first | refine qqr ?_ | refine qqt ?_); simp only [SS, qg0, textr, simprocAttr]))
 first | refine qqf ?_ ?_ | refine qqg ?_ ?_
 ·exact fun _ _ => rfl
 ·simp only [packed, qv, Nat.reduceEqDiff, ↓reduceIte]
  exact ⟨trivial, trivial, trivial⟩
end Go.Proofs.YtihjaobjhmmboaaGreatDoor
