/- A part of a proof. Its conditions: none. -/
import Derived.Test.YtddpnhhgmfaloaaDoorAmEFtoa
import Derived.Test.YtddpnhhgmfaloaaDoorAmEKey
set_option linter.all false
namespace Go.Proofs.YtddpnhhgmfaloaaDoor
open Go.AM Ieee
set_option maxRecDepth 100000

def maxW : Nat := 9218868437227405311
theorem isinf1_gives (b : Nat) (n : Nat) (H : Heap) : Gives Tryd.prog 31 [.float .f64 b, .int .i64 1] n H fun v n' H' => v = .bool (FloatKind.f64.format.order b maxW == some .gt) ∧ n' = n ∧ H' = H := by
  refine Gives.of orders ok31 (Nat.le_of_ble_eq_true rfl) ?_
-- function 31
  have z1 : ((1 : Int) = 0) = False := by simp
  have z2 : ((1 : Int) < 0) = False := by simp
  repeat (first | apply WK.seq | apply WK.block | apply WK.skipSeq | apply WK.skipBlock | apply WK.retSeq | apply WK.retBlock | apply WK.exitSeq | apply WK.exitHere | refine WK.exitOn rfl ?_ | ((first | (refine WK.rgn ?_ ?_; kernel_rfl) | refine AtCall.now ?_); simp (config := { maxSteps := 1000000 }) only [SS, forall_const, wx, tguard, acallee, top, tval, fput, tor, vsh, vbin, vun, Int.reduceEq, Int.reduceNeg, Nat.reduceGT, Nat.reduceLT, Nat.reduceLeDiff, Nat.reduceEqDiff, ↓reduceIte, reduceCtorEq, Int.reduceToNat, Int.reduceLE, Int.reduceLT, Nat.reduceAdd, Nat.reduceMul, z1, z2, ff_31]) | (refine WK.condT ?_ ?_; focus (simp only [ev_tmp, ev_const, fset_apply, Nat.reduceEqDiff, ↓reduceIte, decide_true, decide_false, z1, z2, ff_31]; done)) | (refine WK.condF ?_ ?_; focus (simp only [ev_tmp, ev_const, fset_apply, Nat.reduceEqDiff, ↓reduceIte, decide_true, decide_false, z1, z2, ff_31]; done)))
  (first | refine WK.retNil ⟨Or.inr rfl, _, rfl, ?_, ?_⟩ | refine WK.skipNil ⟨Or.inl rfl, _, rfl, ?_, ?_⟩)
  · exact fun _ _ => rfl
  · simp only [packed, fset_apply, Nat.reduceEqDiff, ↓reduceIte, List.getD_cons_zero, List.getD_cons_succ, ff_31]
    exact ⟨rfl, trivial, trivial⟩
theorem isinf2_gives (b : Nat) (n : Nat) (H : Heap) : Gives Tryd.prog 31 [.float .f64 b, .int .i64 (-1)] n H fun v n' H' => v = .bool (FloatKind.f64.format.order (Op.negFloat .f64 b) maxW == some .gt) ∧ n' = n ∧ H' = H := by
  refine Gives.of orders ok31 (Nat.le_of_ble_eq_true rfl) ?_
-- function 31
  have z1 : ((-1 : Int) = 0) = False := by simp
  have z2 : ((-1 : Int) < 0) = True := by simp
  repeat (first | apply WK.seq | apply WK.block | apply WK.skipSeq | apply WK.skipBlock | apply WK.retSeq | apply WK.retBlock | apply WK.exitSeq | apply WK.exitHere | refine WK.exitOn rfl ?_ | ((first | (refine WK.rgn ?_ ?_; kernel_rfl) | refine AtCall.now ?_); simp (config := { maxSteps := 1000000 }) only [SS, forall_const, wx, tguard, acallee, top, tval, fput, tor, vsh, vbin, vun, Int.reduceEq, Int.reduceNeg, Nat.reduceGT, Nat.reduceLT, Nat.reduceLeDiff, Nat.reduceEqDiff, ↓reduceIte, reduceCtorEq, Int.reduceToNat, Int.reduceLE, Int.reduceLT, Nat.reduceAdd, Nat.reduceMul, z1, z2, ff_31]) | (refine WK.condT ?_ ?_; focus (simp only [ev_tmp, ev_const, fset_apply, Nat.reduceEqDiff, ↓reduceIte, decide_true, decide_false, z1, z2, ff_31]; done)) | (refine WK.condF ?_ ?_; focus (simp only [ev_tmp, ev_const, fset_apply, Nat.reduceEqDiff, ↓reduceIte, decide_true, decide_false, z1, z2, ff_31]; done)))
  (first | refine WK.retNil ⟨Or.inr rfl, _, rfl, ?_, ?_⟩ | refine WK.skipNil ⟨Or.inl rfl, _, rfl, ?_, ?_⟩)
  · exact fun _ _ => rfl
  · simp only [packed, fset_apply, Nat.reduceEqDiff, ↓reduceIte, List.getD_cons_zero, List.getD_cons_succ, ff_31]
    exact ⟨rfl, trivial, trivial⟩

set_option maxHeartbeats 2000000 in
theorem text_nan (b : Nat) (h : realB b = false) (n : Nat) (H : Heap) : Gives Tryd.prog 22 [.float .f64 b] n H fun v n' H' => v = .string ⟨#[110, 97, 110]⟩ ∧ n' = n ∧ H' = H := by
  refine Gives.of orders ok22 (Nat.le_of_ble_eq_true rfl) ?_
-- function 22
  repeat (first | apply WK.seq | apply WK.block | apply WK.skipSeq | apply WK.skipBlock | apply WK.retSeq | apply WK.retBlock | apply WK.exitSeq | apply WK.exitHere | refine WK.exitOn rfl ?_ | ((first | (refine WK.rgn ?_ ?_; kernel_rfl) | refine AtCall.now ?_); simp (config := { maxSteps := 1000000 }) only [SS, forall_const, wx, tguard, acallee, top, tval, fput, tor, vsh, vbin, Int.reduceEq, Int.reduceNeg, Nat.reduceGT, Nat.reduceLT, Nat.reduceLeDiff, Nat.reduceEqDiff, ↓reduceIte, reduceCtorEq, Int.reduceToNat, Int.reduceLE, Int.reduceLT, Nat.reduceAdd, Nat.reduceMul, bne_realB, h, ff_22]) | (refine WK.condT ?_ ?_; focus (simp only [ev_tmp, ev_const, fset_apply, Nat.reduceEqDiff, ↓reduceIte, decide_true, decide_false, bne_realB, h, ff_22]; done)) | (refine WK.condF ?_ ?_; focus (simp only [ev_tmp, ev_const, fset_apply, Nat.reduceEqDiff, ↓reduceIte, decide_true, decide_false, bne_realB, h, ff_22]; done)))
  (first | refine WK.retNil ⟨Or.inr rfl, _, rfl, ?_, ?_⟩ | refine WK.skipNil ⟨Or.inl rfl, _, rfl, ?_, ?_⟩)
  · exact fun _ _ => rfl
  · simp only [packed, fset_apply, Nat.reduceEqDiff, ↓reduceIte, List.getD_cons_zero, List.getD_cons_succ, ff_22]
    exact ⟨trivial, trivial, trivial⟩

/-- A finite double is not above the greatest one. -/
theorem order_max {neg : Bool} {E F : Nat} (hE : E ≤ 2046) (hF : F < 4503599627370496) : (FloatKind.f64.format.order (word neg E F) maxW == some .gt) = false := by
  have hr : Format.read double maxW = .number false 9007199254740991 971 := by kernel_rfl
  have hle : ∀ (s : Bool) (m : Nat) (e : Int), m ≤ 9007199254740991 → -1074 ≤ e → e ≤ 971 → ((Datum.number s m e).order (.number false 9007199254740991 971) == some .gt) = false := by
    intro s m e hm h1 h2
    have hb : min e 971 = e := by omega
    simp only [Datum.order, hb]
    have h0 : (e - e).toNat = 0 := by omega
    have a : signed s m (e - e).toNat ≤ 9007199254740991 := by
      rw [h0]; unfold signed; cases s <;> simp <;> omega
    have b : (9007199254740991 : Int) ≤ signed false 9007199254740991 (971 - e).toNat := by
      unfold signed
      rw [Nat.shiftLeft_eq]
      have := Nat.mul_le_mul_left 9007199254740991 (Nat.one_le_two_pow (n := (971 - e).toNat))
      simp only [Bool.false_eq_true, if_false]
      omega
    generalize signed s m (e - e).toNat = x at a
    generalize signed false 9007199254740991 (971 - e).toNat = y at b
    have : compare x y ≠ .gt := fun h => by have := Int.compare_eq_gt.1 h; omega
    cases hc : compare x y <;> first | rfl | exact absurd hc this
  show (Datum.order (Format.read double (word neg E F)) (Format.read double maxW) == some .gt) = false
  rw [hr, read_word]
  have h63 : word neg E F % 9223372036854775808 = E * 4503599627370496 + F := by unfold word; cases neg <;> simp <;> omega
  rw [h63]
  split
  · exact hle _ _ _ (by omega) (by omega) (by omega)
  · rw [if_pos (by omega)]
    exact hle _ _ _ (by omega) (by omega) (by omega)

def toBA (out : List Nat) : ByteArray := ⟨(out.map UInt8.ofNat).toArray⟩
theorem bytes_bv : ∀ out : List Nat, bytesOf (out.map bv) = some (out.map Int.ofNat) := by
  intro out
  induction out with
  | nil => rfl
  | cons a out ih =>
    simp only [List.map_cons, bytesOf, ih]
    rfl
theorem astr {H : Heap} {y : Nat} {out : List Nat} (h : H y = .cells (out.map bv) 5 true) : astring Tryd.prog 57 9 H (.slice (some ⟨y, 0, none⟩) out.length out.length) = some { v := .string (toBA out), rd := [y] } := by
  have h1 : Tryd.prog.underlying 57 = some (.slice 5) := by kernel_rfl
  have h2 : Tryd.prog.underlying 9 = some .string := by kernel_rfl
  have h3 : Tryd.prog.underlying 5 = some (.int .u8) := by kernel_rfl
  unfold astring
  simp only [h1, h2, h3, h]
  rw [if_pos (by simp)]
  rw [List.drop_zero, List.take_of_length_le (by simp), bytes_bv]
  simp only [Option.map_some, strNums, toBA, List.map_map]
  rfl

set_option maxHeartbeats 2000000 in
theorem format_of {b n : Nat} {H : Heap} {R : List Nat → Prop} (hft : ∀ H1, H1 n = .cells [] 5 true → WF (n + 1) H1 → (∀ x, x < n → H1 x = H x) → GivesX Tryd.prog (fun z => z = n) 50 [.slice (some ⟨n, 0, none⟩) 0 0, .float .f64 b, .int .u8 102, .int .i64 (-1)] (n + 1) H1 fun v n' H' =>
      ∃ out, R out ∧ ∃ y, v = .slice (some ⟨y, 0, none⟩) out.length out.length ∧ H' y = .cells (out.map bv) 5 true) (hw : WF n H) :
    Gives Tryd.prog 42 [.float .f64 b, .int .u8 102, .int .i64 (-1), .int .i64 64] n H fun v n' H' => ∃ out, R out ∧ v = .string (toBA out) := by
  refine Gives.of orders ok42 (Nat.le_of_ble_eq_true rfl) ?_
-- function 42
  have w1 : IntKind.i64.wrap (-1 + 4) = 3 := rfl
  have w2 : (if (3 : Int) < 24 then (24 : Int) else 3) = 24 := rfl
  have hbg : ((24 : Int) ≤ (bigN : Int)) = True := by simp [bigN]
  repeat (first | apply WK.seq | apply WK.block | apply WK.skipSeq | apply WK.skipBlock | apply WK.retSeq | apply WK.retBlock | apply WK.exitSeq | apply WK.exitHere | refine WK.exitOn rfl ?_ | ((first | (refine WK.rgn ?_ ?_; kernel_rfl) | refine AtCall.now ?_); simp (config := { maxSteps := 1000000 }) only [SS, forall_const, wx, tguard, acallee, top, tval, fput, tor, vsh, vbin, vconv, tmake, Int.reduceEq, Int.reduceNeg, Nat.reduceGT, Nat.reduceLT, Nat.reduceLeDiff, Nat.reduceEqDiff, ↓reduceIte, reduceCtorEq, Int.reduceToNat, Int.reduceLE, Int.reduceLT, Nat.reduceAdd, Nat.reduceMul, w1, w2, aop_max, tmm, hbg, ff_42]) | (refine WK.condT ?_ ?_; focus (simp only [ev_tmp, ev_const, fset_apply, Nat.reduceEqDiff, ↓reduceIte, decide_true, decide_false, w1, w2, aop_max, tmm, hbg, ff_42]; done)) | (refine WK.condF ?_ ?_; focus (simp only [ev_tmp, ev_const, fset_apply, Nat.reduceEqDiff, ↓reduceIte, decide_true, decide_false, w1, w2, aop_max, tmm, hbg, ff_42]; done)))
  have hkn := Kp.new n H (.cells [] 5 true)
  refine AtCall.byX (hft _ (hset_at _ _ _) (hkn.wf hw) (fun x hx => hkn.keep x hx)) ?_
  rintro v n2 H2 kx ⟨out, hR, y, rfl, hy⟩
  have ha := astr hy
  simp (config := { maxSteps := 1000000 }) only [SS, forall_const, wx, tguard, acallee, top, tval, fput, tor, vsh, vbin, vconv, tmake, Int.reduceEq, Int.reduceNeg, Nat.reduceGT, Nat.reduceLT, Nat.reduceLeDiff, Nat.reduceEqDiff, ↓reduceIte, reduceCtorEq, Int.reduceToNat, Int.reduceLE, Int.reduceLT, Nat.reduceAdd, Nat.reduceMul, aop_cv, acv, ha, ff_42]
  repeat (first | apply WK.seq | apply WK.block | apply WK.skipSeq | apply WK.skipBlock | apply WK.retSeq | apply WK.retBlock | apply WK.exitSeq | apply WK.exitHere | refine WK.exitOn rfl ?_ | ((first | (refine WK.rgn ?_ ?_; kernel_rfl) | refine AtCall.now ?_); simp (config := { maxSteps := 1000000 }) only [SS, forall_const, wx, tguard, acallee, top, tval, fput, tor, vsh, vbin, vconv, tmake, Int.reduceEq, Int.reduceNeg, Nat.reduceGT, Nat.reduceLT, Nat.reduceLeDiff, Nat.reduceEqDiff, ↓reduceIte, reduceCtorEq, Int.reduceToNat, Int.reduceLE, Int.reduceLT, Nat.reduceAdd, Nat.reduceMul, aop_cv, acv, ha, ff_42]) | (refine WK.condT ?_ ?_; focus (simp only [ev_tmp, ev_const, fset_apply, Nat.reduceEqDiff, ↓reduceIte, decide_true, decide_false, aop_cv, acv, ha, ff_42]; done)) | (refine WK.condF ?_ ?_; focus (simp only [ev_tmp, ev_const, fset_apply, Nat.reduceEqDiff, ↓reduceIte, decide_true, decide_false, aop_cv, acv, ha, ff_42]; done)))
  (first | refine WK.retNil ⟨Or.inr rfl, _, rfl, ?_, ?_⟩ | refine WK.skipNil ⟨Or.inl rfl, _, rfl, ?_, ?_⟩)
  · intro z hz
    show H2 z = H z
    rw [kx.keep z (by omega) (by omega)]; exact hkn.keep z hz
  · simp only [packed, fset_apply, Nat.reduceEqDiff, ↓reduceIte, List.getD_cons_zero, List.getD_cons_succ, ff_42]
    exact ⟨out, hR, rfl⟩

set_option maxHeartbeats 2000000 in
theorem format2_of {b n : Nat} {H : Heap} {R : List Nat → Prop} (h : Gives Tryd.prog 42 [.float .f64 b, .int .u8 102, .int .i64 (-1), .int .i64 64] n H fun v n' H' => ∃ out, R out ∧ v = .string (toBA out)) :
    Gives Tryd.prog 32 [.float .f64 b, .int .u8 102, .int .i64 (-1), .int .i64 64] n H fun v n' H' => ∃ out, R out ∧ v = .string (toBA out) := by
  refine Gives.of orders ok32 (Nat.le_of_ble_eq_true rfl) ?_
-- function 32
  repeat (first | apply WK.seq | apply WK.block | apply WK.skipSeq | apply WK.skipBlock | apply WK.retSeq | apply WK.retBlock | apply WK.exitSeq | apply WK.exitHere | refine WK.exitOn rfl ?_ | ((first | (refine WK.rgn ?_ ?_; kernel_rfl) | refine AtCall.now ?_); simp (config := { maxSteps := 1000000 }) only [SS, forall_const, wx, tguard, acallee, top, tval, fput, Int.reduceEq, Int.reduceNeg, Nat.reduceGT, Nat.reduceLT, Nat.reduceLeDiff, Nat.reduceEqDiff, ↓reduceIte, reduceCtorEq, Int.reduceToNat, Int.reduceLE, Int.reduceLT, Nat.reduceAdd, Nat.reduceMul]) | (refine WK.condT ?_ ?_; focus (simp only [ev_tmp, ev_const, fset_apply, Nat.reduceEqDiff, ↓reduceIte, decide_true, decide_false]; done)) | (refine WK.condF ?_ ?_; focus (simp only [ev_tmp, ev_const, fset_apply, Nat.reduceEqDiff, ↓reduceIte, decide_true, decide_false]; done)))
  refine AtCall.by h ?_
  rintro v n2 H2 hk ⟨out, hR, rfl⟩
  simp (config := { maxSteps := 1000000 }) only [SS, forall_const, wx, tguard, acallee, top, tval, fput, Int.reduceEq, Int.reduceNeg, Nat.reduceGT, Nat.reduceLT, Nat.reduceLeDiff, Nat.reduceEqDiff, ↓reduceIte, reduceCtorEq, Int.reduceToNat, Int.reduceLE, Int.reduceLT, Nat.reduceAdd, Nat.reduceMul]
  repeat (first | apply WK.seq | apply WK.block | apply WK.skipSeq | apply WK.skipBlock | apply WK.retSeq | apply WK.retBlock | apply WK.exitSeq | apply WK.exitHere | refine WK.exitOn rfl ?_ | ((first | (refine WK.rgn ?_ ?_; kernel_rfl) | refine AtCall.now ?_); simp (config := { maxSteps := 1000000 }) only [SS, forall_const, wx, tguard, acallee, top, tval, fput, Int.reduceEq, Int.reduceNeg, Nat.reduceGT, Nat.reduceLT, Nat.reduceLeDiff, Nat.reduceEqDiff, ↓reduceIte, reduceCtorEq, Int.reduceToNat, Int.reduceLE, Int.reduceLT, Nat.reduceAdd, Nat.reduceMul]) | (refine WK.condT ?_ ?_; focus (simp only [ev_tmp, ev_const, fset_apply, Nat.reduceEqDiff, ↓reduceIte, decide_true, decide_false]; done)) | (refine WK.condF ?_ ?_; focus (simp only [ev_tmp, ev_const, fset_apply, Nat.reduceEqDiff, ↓reduceIte, decide_true, decide_false]; done)))
  (first | refine WK.retNil ⟨Or.inr rfl, _, rfl, ?_, ?_⟩ | refine WK.skipNil ⟨Or.inl rfl, _, rfl, ?_, ?_⟩)
  · exact fun z hz => hk.keep z hz
  · simp only [packed, fset_apply, Nat.reduceEqDiff, ↓reduceIte, List.getD_cons_zero, List.getD_cons_succ]
    exact ⟨out, hR, rfl⟩

set_option maxHeartbeats 2000000 in
theorem text_fin {b n : Nat} {H : Heap} {R : List Nat → Prop} (h1 : realB b = true) (h2 : (FloatKind.f64.format.order b maxW == some .gt) = false) (h3 : (FloatKind.f64.format.order (Op.negFloat .f64 b) maxW == some .gt) = false)
    (h : ∀ n' H', Kp n H n' H' → Gives Tryd.prog 42 [.float .f64 b, .int .u8 102, .int .i64 (-1), .int .i64 64] n' H' fun v n' H' => ∃ out, R out ∧ v = .string (toBA out)) :
    Gives Tryd.prog 22 [.float .f64 b] n H fun v n' H' => ∃ out, R out ∧ v = .string (toBA out) := by
  refine Gives.of orders ok22 (Nat.le_of_ble_eq_true rfl) ?_
-- function 22
  repeat (first | apply WK.seq | apply WK.block | apply WK.skipSeq | apply WK.skipBlock | apply WK.retSeq | apply WK.retBlock | apply WK.exitSeq | apply WK.exitHere | refine WK.exitOn rfl ?_ | ((first | (refine WK.rgn ?_ ?_; kernel_rfl) | refine AtCall.now ?_); simp (config := { maxSteps := 1000000 }) only [SS, forall_const, wx, tguard, acallee, top, tval, fput, tor, vsh, vbin, Int.reduceEq, Int.reduceNeg, Nat.reduceGT, Nat.reduceLT, Nat.reduceLeDiff, Nat.reduceEqDiff, ↓reduceIte, reduceCtorEq, Int.reduceToNat, Int.reduceLE, Int.reduceLT, Nat.reduceAdd, Nat.reduceMul, bne_realB, h1, ff_22]) | (refine WK.condT ?_ ?_; focus (simp only [ev_tmp, ev_const, fset_apply, Nat.reduceEqDiff, ↓reduceIte, decide_true, decide_false, bne_realB, h1, ff_22]; done)) | (refine WK.condF ?_ ?_; focus (simp only [ev_tmp, ev_const, fset_apply, Nat.reduceEqDiff, ↓reduceIte, decide_true, decide_false, bne_realB, h1, ff_22]; done)))
  refine AtCall.by (isinf1_gives b _ _) ?_
  rintro v n2 H2 hk ⟨rfl, rfl, rfl⟩
  simp (config := { maxSteps := 1000000 }) only [SS, forall_const, wx, tguard, acallee, top, tval, fput, tor, vsh, vbin, Int.reduceEq, Int.reduceNeg, Nat.reduceGT, Nat.reduceLT, Nat.reduceLeDiff, Nat.reduceEqDiff, ↓reduceIte, reduceCtorEq, Int.reduceToNat, Int.reduceLE, Int.reduceLT, Nat.reduceAdd, Nat.reduceMul, h2, ff_22]
  repeat (first | apply WK.seq | apply WK.block | apply WK.skipSeq | apply WK.skipBlock | apply WK.retSeq | apply WK.retBlock | apply WK.exitSeq | apply WK.exitHere | refine WK.exitOn rfl ?_ | ((first | (refine WK.rgn ?_ ?_; kernel_rfl) | refine AtCall.now ?_); simp (config := { maxSteps := 1000000 }) only [SS, forall_const, wx, tguard, acallee, top, tval, fput, tor, vsh, vbin, Int.reduceEq, Int.reduceNeg, Nat.reduceGT, Nat.reduceLT, Nat.reduceLeDiff, Nat.reduceEqDiff, ↓reduceIte, reduceCtorEq, Int.reduceToNat, Int.reduceLE, Int.reduceLT, Nat.reduceAdd, Nat.reduceMul, h2, ff_22]) | (refine WK.condT ?_ ?_; focus (simp only [ev_tmp, ev_const, fset_apply, Nat.reduceEqDiff, ↓reduceIte, decide_true, decide_false, h2, ff_22]; done)) | (refine WK.condF ?_ ?_; focus (simp only [ev_tmp, ev_const, fset_apply, Nat.reduceEqDiff, ↓reduceIte, decide_true, decide_false, h2, ff_22]; done)))
  refine AtCall.by (isinf2_gives b _ _) ?_
  rintro v n2 H2 hk ⟨rfl, rfl, rfl⟩
  simp (config := { maxSteps := 1000000 }) only [SS, forall_const, wx, tguard, acallee, top, tval, fput, tor, vsh, vbin, Int.reduceEq, Int.reduceNeg, Nat.reduceGT, Nat.reduceLT, Nat.reduceLeDiff, Nat.reduceEqDiff, ↓reduceIte, reduceCtorEq, Int.reduceToNat, Int.reduceLE, Int.reduceLT, Nat.reduceAdd, Nat.reduceMul, h3, ff_22]
  repeat (first | apply WK.seq | apply WK.block | apply WK.skipSeq | apply WK.skipBlock | apply WK.retSeq | apply WK.retBlock | apply WK.exitSeq | apply WK.exitHere | refine WK.exitOn rfl ?_ | ((first | (refine WK.rgn ?_ ?_; kernel_rfl) | refine AtCall.now ?_); simp (config := { maxSteps := 1000000 }) only [SS, forall_const, wx, tguard, acallee, top, tval, fput, tor, vsh, vbin, Int.reduceEq, Int.reduceNeg, Nat.reduceGT, Nat.reduceLT, Nat.reduceLeDiff, Nat.reduceEqDiff, ↓reduceIte, reduceCtorEq, Int.reduceToNat, Int.reduceLE, Int.reduceLT, Nat.reduceAdd, Nat.reduceMul, h3, ff_22]) | (refine WK.condT ?_ ?_; focus (simp only [ev_tmp, ev_const, fset_apply, Nat.reduceEqDiff, ↓reduceIte, decide_true, decide_false, h3, ff_22]; done)) | (refine WK.condF ?_ ?_; focus (simp only [ev_tmp, ev_const, fset_apply, Nat.reduceEqDiff, ↓reduceIte, decide_true, decide_false, h3, ff_22]; done)))
  refine AtCall.by (format2_of (h _ _ hk)) ?_
  rintro v n2 H2 hk ⟨out, hR, rfl⟩
  simp (config := { maxSteps := 1000000 }) only [SS, forall_const, wx, tguard, acallee, top, tval, fput, tor, vsh, vbin, Int.reduceEq, Int.reduceNeg, Nat.reduceGT, Nat.reduceLT, Nat.reduceLeDiff, Nat.reduceEqDiff, ↓reduceIte, reduceCtorEq, Int.reduceToNat, Int.reduceLE, Int.reduceLT, Nat.reduceAdd, Nat.reduceMul, ff_22]
  repeat (first | apply WK.seq | apply WK.block | apply WK.skipSeq | apply WK.skipBlock | apply WK.retSeq | apply WK.retBlock | apply WK.exitSeq | apply WK.exitHere | refine WK.exitOn rfl ?_ | ((first | (refine WK.rgn ?_ ?_; kernel_rfl) | refine AtCall.now ?_); simp (config := { maxSteps := 1000000 }) only [SS, forall_const, wx, tguard, acallee, top, tval, fput, tor, vsh, vbin, Int.reduceEq, Int.reduceNeg, Nat.reduceGT, Nat.reduceLT, Nat.reduceLeDiff, Nat.reduceEqDiff, ↓reduceIte, reduceCtorEq, Int.reduceToNat, Int.reduceLE, Int.reduceLT, Nat.reduceAdd, Nat.reduceMul, ff_22]) | (refine WK.condT ?_ ?_; focus (simp only [ev_tmp, ev_const, fset_apply, Nat.reduceEqDiff, ↓reduceIte, decide_true, decide_false, ff_22]; done)) | (refine WK.condF ?_ ?_; focus (simp only [ev_tmp, ev_const, fset_apply, Nat.reduceEqDiff, ↓reduceIte, decide_true, decide_false, ff_22]; done)))
  (first | refine WK.retNil ⟨Or.inr rfl, _, rfl, ?_, ?_⟩ | refine WK.skipNil ⟨Or.inl rfl, _, rfl, ?_, ?_⟩)
  · exact fun z hz => hk.keep z hz
  · simp only [packed, fset_apply, Nat.reduceEqDiff, ↓reduceIte, List.getD_cons_zero, List.getD_cons_succ, ff_22]
    exact ⟨out, hR, rfl⟩

set_option maxHeartbeats 2000000 in
theorem text_inf (n : Nat) (H : Heap) : Gives Tryd.prog 22 [.float .f64 0x7FF0000000000000] n H fun v n' H' => v = .string ⟨#[105, 110, 102]⟩ ∧ n' = n ∧ H' = H := by
  have h1 : realB 0x7FF0000000000000 = true := by kernel_rfl
  have h2 : (FloatKind.f64.format.order 0x7FF0000000000000 maxW == some .gt) = true := by kernel_rfl
  refine Gives.of orders ok22 (Nat.le_of_ble_eq_true rfl) ?_
-- function 22
  repeat (first | apply WK.seq | apply WK.block | apply WK.skipSeq | apply WK.skipBlock | apply WK.retSeq | apply WK.retBlock | apply WK.exitSeq | apply WK.exitHere | refine WK.exitOn rfl ?_ | ((first | (refine WK.rgn ?_ ?_; kernel_rfl) | refine AtCall.now ?_); simp (config := { maxSteps := 1000000 }) only [SS, forall_const, wx, tguard, acallee, top, tval, fput, tor, vsh, vbin, Int.reduceEq, Int.reduceNeg, Nat.reduceGT, Nat.reduceLT, Nat.reduceLeDiff, Nat.reduceEqDiff, ↓reduceIte, reduceCtorEq, Int.reduceToNat, Int.reduceLE, Int.reduceLT, Nat.reduceAdd, Nat.reduceMul, bne_realB, h1, ff_22]) | (refine WK.condT ?_ ?_; focus (simp only [ev_tmp, ev_const, fset_apply, Nat.reduceEqDiff, ↓reduceIte, decide_true, decide_false, bne_realB, h1, ff_22]; done)) | (refine WK.condF ?_ ?_; focus (simp only [ev_tmp, ev_const, fset_apply, Nat.reduceEqDiff, ↓reduceIte, decide_true, decide_false, bne_realB, h1, ff_22]; done)))
  refine AtCall.by (isinf1_gives _ _ _) ?_
  rintro v n2 H2 hk ⟨rfl, rfl, rfl⟩
  simp (config := { maxSteps := 1000000 }) only [SS, forall_const, wx, tguard, acallee, top, tval, fput, tor, vsh, vbin, Int.reduceEq, Int.reduceNeg, Nat.reduceGT, Nat.reduceLT, Nat.reduceLeDiff, Nat.reduceEqDiff, ↓reduceIte, reduceCtorEq, Int.reduceToNat, Int.reduceLE, Int.reduceLT, Nat.reduceAdd, Nat.reduceMul, h2, ff_22]
  repeat (first | apply WK.seq | apply WK.block | apply WK.skipSeq | apply WK.skipBlock | apply WK.retSeq | apply WK.retBlock | apply WK.exitSeq | apply WK.exitHere | refine WK.exitOn rfl ?_ | ((first | (refine WK.rgn ?_ ?_; kernel_rfl) | refine AtCall.now ?_); simp (config := { maxSteps := 1000000 }) only [SS, forall_const, wx, tguard, acallee, top, tval, fput, tor, vsh, vbin, Int.reduceEq, Int.reduceNeg, Nat.reduceGT, Nat.reduceLT, Nat.reduceLeDiff, Nat.reduceEqDiff, ↓reduceIte, reduceCtorEq, Int.reduceToNat, Int.reduceLE, Int.reduceLT, Nat.reduceAdd, Nat.reduceMul, h2, ff_22]) | (refine WK.condT ?_ ?_; focus (simp only [ev_tmp, ev_const, fset_apply, Nat.reduceEqDiff, ↓reduceIte, decide_true, decide_false, h2, ff_22]; done)) | (refine WK.condF ?_ ?_; focus (simp only [ev_tmp, ev_const, fset_apply, Nat.reduceEqDiff, ↓reduceIte, decide_true, decide_false, h2, ff_22]; done)))
  (first | refine WK.retNil ⟨Or.inr rfl, _, rfl, ?_, ?_⟩ | refine WK.skipNil ⟨Or.inl rfl, _, rfl, ?_, ?_⟩)
  · exact fun z hz => hk.keep z hz
  · simp only [packed, fset_apply, Nat.reduceEqDiff, ↓reduceIte, List.getD_cons_zero, List.getD_cons_succ, ff_22]
    exact ⟨trivial, trivial, trivial⟩
theorem text_ninf (n : Nat) (H : Heap) : Gives Tryd.prog 22 [.float .f64 0xFFF0000000000000] n H fun v n' H' => v = .string ⟨#[45, 105, 110, 102]⟩ ∧ n' = n ∧ H' = H := by
  have h1 : realB 0xFFF0000000000000 = true := by kernel_rfl
  have h2 : (FloatKind.f64.format.order 0xFFF0000000000000 maxW == some .gt) = false := by kernel_rfl
  have h3 : (FloatKind.f64.format.order (Op.negFloat .f64 0xFFF0000000000000) maxW == some .gt) = true := by kernel_rfl
  refine Gives.of orders ok22 (Nat.le_of_ble_eq_true rfl) ?_
-- function 22
  repeat (first | apply WK.seq | apply WK.block | apply WK.skipSeq | apply WK.skipBlock | apply WK.retSeq | apply WK.retBlock | apply WK.exitSeq | apply WK.exitHere | refine WK.exitOn rfl ?_ | ((first | (refine WK.rgn ?_ ?_; kernel_rfl) | refine AtCall.now ?_); simp (config := { maxSteps := 1000000 }) only [SS, forall_const, wx, tguard, acallee, top, tval, fput, tor, vsh, vbin, Int.reduceEq, Int.reduceNeg, Nat.reduceGT, Nat.reduceLT, Nat.reduceLeDiff, Nat.reduceEqDiff, ↓reduceIte, reduceCtorEq, Int.reduceToNat, Int.reduceLE, Int.reduceLT, Nat.reduceAdd, Nat.reduceMul, bne_realB, h1, ff_22]) | (refine WK.condT ?_ ?_; focus (simp only [ev_tmp, ev_const, fset_apply, Nat.reduceEqDiff, ↓reduceIte, decide_true, decide_false, bne_realB, h1, ff_22]; done)) | (refine WK.condF ?_ ?_; focus (simp only [ev_tmp, ev_const, fset_apply, Nat.reduceEqDiff, ↓reduceIte, decide_true, decide_false, bne_realB, h1, ff_22]; done)))
  refine AtCall.by (isinf1_gives _ _ _) ?_
  rintro v n2 H2 hk ⟨rfl, rfl, rfl⟩
  simp (config := { maxSteps := 1000000 }) only [SS, forall_const, wx, tguard, acallee, top, tval, fput, tor, vsh, vbin, Int.reduceEq, Int.reduceNeg, Nat.reduceGT, Nat.reduceLT, Nat.reduceLeDiff, Nat.reduceEqDiff, ↓reduceIte, reduceCtorEq, Int.reduceToNat, Int.reduceLE, Int.reduceLT, Nat.reduceAdd, Nat.reduceMul, h2, ff_22]
  repeat (first | apply WK.seq | apply WK.block | apply WK.skipSeq | apply WK.skipBlock | apply WK.retSeq | apply WK.retBlock | apply WK.exitSeq | apply WK.exitHere | refine WK.exitOn rfl ?_ | ((first | (refine WK.rgn ?_ ?_; kernel_rfl) | refine AtCall.now ?_); simp (config := { maxSteps := 1000000 }) only [SS, forall_const, wx, tguard, acallee, top, tval, fput, tor, vsh, vbin, Int.reduceEq, Int.reduceNeg, Nat.reduceGT, Nat.reduceLT, Nat.reduceLeDiff, Nat.reduceEqDiff, ↓reduceIte, reduceCtorEq, Int.reduceToNat, Int.reduceLE, Int.reduceLT, Nat.reduceAdd, Nat.reduceMul, h2, ff_22]) | (refine WK.condT ?_ ?_; focus (simp only [ev_tmp, ev_const, fset_apply, Nat.reduceEqDiff, ↓reduceIte, decide_true, decide_false, h2, ff_22]; done)) | (refine WK.condF ?_ ?_; focus (simp only [ev_tmp, ev_const, fset_apply, Nat.reduceEqDiff, ↓reduceIte, decide_true, decide_false, h2, ff_22]; done)))
  refine AtCall.by (isinf2_gives _ _ _) ?_
  rintro v n2 H2 hk ⟨rfl, rfl, rfl⟩
  simp (config := { maxSteps := 1000000 }) only [SS, forall_const, wx, tguard, acallee, top, tval, fput, tor, vsh, vbin, Int.reduceEq, Int.reduceNeg, Nat.reduceGT, Nat.reduceLT, Nat.reduceLeDiff, Nat.reduceEqDiff, ↓reduceIte, reduceCtorEq, Int.reduceToNat, Int.reduceLE, Int.reduceLT, Nat.reduceAdd, Nat.reduceMul, h3, ff_22]
  repeat (first | apply WK.seq | apply WK.block | apply WK.skipSeq | apply WK.skipBlock | apply WK.retSeq | apply WK.retBlock | apply WK.exitSeq | apply WK.exitHere | refine WK.exitOn rfl ?_ | ((first | (refine WK.rgn ?_ ?_; kernel_rfl) | refine AtCall.now ?_); simp (config := { maxSteps := 1000000 }) only [SS, forall_const, wx, tguard, acallee, top, tval, fput, tor, vsh, vbin, Int.reduceEq, Int.reduceNeg, Nat.reduceGT, Nat.reduceLT, Nat.reduceLeDiff, Nat.reduceEqDiff, ↓reduceIte, reduceCtorEq, Int.reduceToNat, Int.reduceLE, Int.reduceLT, Nat.reduceAdd, Nat.reduceMul, h3, ff_22]) | (refine WK.condT ?_ ?_; focus (simp only [ev_tmp, ev_const, fset_apply, Nat.reduceEqDiff, ↓reduceIte, decide_true, decide_false, h3, ff_22]; done)) | (refine WK.condF ?_ ?_; focus (simp only [ev_tmp, ev_const, fset_apply, Nat.reduceEqDiff, ↓reduceIte, decide_true, decide_false, h3, ff_22]; done)))
  (first | refine WK.retNil ⟨Or.inr rfl, _, rfl, ?_, ?_⟩ | refine WK.skipNil ⟨Or.inl rfl, _, rfl, ?_, ?_⟩)
  · exact fun z hz => hk.keep z hz
  · simp only [packed, fset_apply, Nat.reduceEqDiff, ↓reduceIte, List.getD_cons_zero, List.getD_cons_succ, ff_22]
    exact ⟨trivial, trivial, trivial⟩
end Go.Proofs.YtddpnhhgmfaloaaDoor
