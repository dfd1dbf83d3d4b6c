/- A part of a proof. Its conditions: none. -/
import Derived.Test.YtgnmaekfiifepaaDoorAmMMiNum
import Derived.Test.YtgnmaekfiifepaaDoorAmC
import Derived.Test.YtgnmaekfiifepaaDoorRows
set_option linter.all false
namespace Go.Proofs.YtgnmaekfiifepaaDoor
open Go.AM
set_option maxRecDepth 100000
theorem ust : Tryd.prog.underlying 9 = some .string := by kernel_rfl
theorem ff_26 : Tryd.prog.underlying 9 = some .string := ust
def slOK (T : ByteArray) (a b : Nat → Nat) (L : Nat → List UInt8) (N : Nat) : Bool := (List.range N).all fun i => decide ((T.extract (a i) (b i)).data.toList = L i) && decide (a i ≤ b i) && decide (b i ≤ T.size)
theorem w3_sl {k : Fr → Nat → Heap → Prop} {f : Fr} {d : Option Nat} {n : Nat} {H : Heap} {T : ByteArray} {alt : Option Res} (a b : Nat → Nat) (L : Nat → List UInt8) (N i : Nat) (hT : slOK T a b L N = true) (hi : i < N) (h : w3 k f d n H (some { v := .string (BA (L i)) })) :
    w3 k f d n H (tss2 T alt (some .string) (some (a i)) (some (b i))) := by
  unfold slOK at hT
  have := List.all_eq_true.1 hT i (by simpa using hi)
  simp only [Bool.and_eq_true, decide_eq_true_eq] at this
  have e : T.extract (a i) (b i) = BA (L i) := by rw [← this.1.1]; rfl
  simp only [tss2, this.1.2, this.2, and_self, if_true, e]
  exact h
set_option maxHeartbeats 2000000 in
theorem small_gives (m : Nat) (hm : m < 100) (n : Nat) (H : Heap) : Gives Tryd.prog 26 [.int .i64 m] n H fun v n' H' => v = .string (BA (dN m)) ∧ n' = n ∧ H' = H := by
  refine Gives.of orders ok26 (Nat.le_of_ble_eq_true rfl) ?_
  have h0 : (0 : Int) ≤ (m : Int) := Int.natCast_nonneg m
  have w1 : IntKind.i64.wrap ((m : Int) + 1) = ((m + 1 : Nat) : Int) := by rw [wrap_in (by omega) (by omega)]; simp
  have w2 : IntKind.i64.wrap ((m : Int) * 2) = ((m * 2 : Nat) : Int) := by rw [wrap_in (by omega) (by omega)]; simp
  have w3' : IntKind.i64.wrap (((m * 2 : Nat) : Int) + 2) = ((m * 2 + 2 : Nat) : Int) := by rw [wrap_in (by omega) (by omega)]; simp
  have h1 : (0 : Int) ≤ ((m + 1 : Nat) : Int) := Int.natCast_nonneg _
  have h2 : (0 : Int) ≤ ((m * 2 : Nat) : Int) := Int.natCast_nonneg _
  have h3 : (0 : Int) ≤ ((m * 2 + 2 : Nat) : Int) := Int.natCast_nonneg _
  by_cases hc : m < 10
  · have hc' : ((m : Int) < 10) = True := by simp only [eq_iff_iff, iff_true]; omega
    repeat (first | apply WK.seq | apply WK.block | apply WK.skipSeq | apply WK.skipBlock | apply WK.retSeq | apply WK.retBlock | apply WK.exitSeq | apply WK.exitHere | refine WK.exitOn rfl ?_ | ((first | (refine WK.rgn ?_ ?_; kernel_rfl) | refine AtCall.now ?_); simp (config := { maxSteps := 1000000 }) only [SS, forall_const, wx, tguard, acallee, top, tval, fput, tor, vsh, vbin, tsl, tsl2, tsl3, tsl4, tsl5, Go.AM.bound, Int.reduceEq, Int.reduceNeg, Nat.reduceGT, Nat.reduceLT, Nat.reduceLeDiff, Nat.reduceEqDiff, ↓reduceIte, reduceCtorEq, Int.reduceToNat, Int.reduceLE, Int.reduceLT, Nat.reduceAdd, Nat.reduceMul, hc', w1, h0, h1, aop_ssl, tss, sbnd, ust, Int.toNat_natCast, ff_26]) | (refine WK.condT ?_ ?_; focus (simp only [ev_tmp, ev_const, fset_apply, Nat.reduceEqDiff, ↓reduceIte, decide_true, decide_false, hc', w1, h0, h1, aop_ssl, tss, sbnd, ust, Int.toNat_natCast, ff_26]; done)) | (refine WK.condF ?_ ?_; focus (simp only [ev_tmp, ev_const, fset_apply, Nat.reduceEqDiff, ↓reduceIte, decide_true, decide_false, hc', w1, h0, h1, aop_ssl, tss, sbnd, ust, Int.toNat_natCast, ff_26]; done)))
    refine w3_sl (fun i => i) (fun i => i + 1) (fun i => [UInt8.ofNat (48 + i)]) 10 m (by kernel_rfl) hc ?_
    simp (config := { maxSteps := 1000000 }) only [SS, forall_const, wx, tguard, acallee, top, tval, fput, tor, vsh, vbin, tsl, tsl2, tsl3, tsl4, tsl5, Go.AM.bound, Int.reduceEq, Int.reduceNeg, Nat.reduceGT, Nat.reduceLT, Nat.reduceLeDiff, Nat.reduceEqDiff, ↓reduceIte, reduceCtorEq, Int.reduceToNat, Int.reduceLE, Int.reduceLT, Nat.reduceAdd, Nat.reduceMul, ff_26]
    repeat (first | apply WK.seq | apply WK.block | apply WK.skipSeq | apply WK.skipBlock | apply WK.retSeq | apply WK.retBlock | apply WK.exitSeq | apply WK.exitHere | refine WK.exitOn rfl ?_ | ((first | (refine WK.rgn ?_ ?_; kernel_rfl) | refine AtCall.now ?_); simp (config := { maxSteps := 1000000 }) only [SS, forall_const, wx, tguard, acallee, top, tval, fput, tor, vsh, vbin, tsl, tsl2, tsl3, tsl4, tsl5, Go.AM.bound, Int.reduceEq, Int.reduceNeg, Nat.reduceGT, Nat.reduceLT, Nat.reduceLeDiff, Nat.reduceEqDiff, ↓reduceIte, reduceCtorEq, Int.reduceToNat, Int.reduceLE, Int.reduceLT, Nat.reduceAdd, Nat.reduceMul, ff_26]) | (refine WK.condT ?_ ?_; focus (simp only [ev_tmp, ev_const, fset_apply, Nat.reduceEqDiff, ↓reduceIte, decide_true, decide_false, ff_26]; done)) | (refine WK.condF ?_ ?_; focus (simp only [ev_tmp, ev_const, fset_apply, Nat.reduceEqDiff, ↓reduceIte, decide_true, decide_false, ff_26]; done)))
    (first | refine WK.retNil ⟨Or.inr rfl, _, rfl, ?_, ?_⟩ | refine WK.skipNil ⟨Or.inl rfl, _, rfl, ?_, ?_⟩)
    · exact fun _ _ => rfl
    · simp only [packed, fset_apply, Nat.reduceEqDiff, ↓reduceIte, List.getD_cons_zero, List.getD_cons_succ, dN_lt hc, ff_26]
      exact ⟨trivial, trivial, trivial⟩
  · have hc' : ((m : Int) < 10) = False := by simp only [eq_iff_iff, iff_false]; omega
    repeat (first | apply WK.seq | apply WK.block | apply WK.skipSeq | apply WK.skipBlock | apply WK.retSeq | apply WK.retBlock | apply WK.exitSeq | apply WK.exitHere | refine WK.exitOn rfl ?_ | ((first | (refine WK.rgn ?_ ?_; kernel_rfl) | refine AtCall.now ?_); simp (config := { maxSteps := 1000000 }) only [SS, forall_const, wx, tguard, acallee, top, tval, fput, tor, vsh, vbin, tsl, tsl2, tsl3, tsl4, tsl5, Go.AM.bound, Int.reduceEq, Int.reduceNeg, Nat.reduceGT, Nat.reduceLT, Nat.reduceLeDiff, Nat.reduceEqDiff, ↓reduceIte, reduceCtorEq, Int.reduceToNat, Int.reduceLE, Int.reduceLT, Nat.reduceAdd, Nat.reduceMul, hc', w2, w3', h0, h2, h3, aop_ssl, tss, sbnd, ust, Int.toNat_natCast, ff_26]) | (refine WK.condT ?_ ?_; focus (simp only [ev_tmp, ev_const, fset_apply, Nat.reduceEqDiff, ↓reduceIte, decide_true, decide_false, hc', w2, w3', h0, h2, h3, aop_ssl, tss, sbnd, ust, Int.toNat_natCast, ff_26]; done)) | (refine WK.condF ?_ ?_; focus (simp only [ev_tmp, ev_const, fset_apply, Nat.reduceEqDiff, ↓reduceIte, decide_true, decide_false, hc', w2, w3', h0, h2, h3, aop_ssl, tss, sbnd, ust, Int.toNat_natCast, ff_26]; done)))
    refine w3_sl (fun i => i * 2) (fun i => i * 2 + 2) (fun i => [UInt8.ofNat (48 + i / 10), UInt8.ofNat (48 + i % 10)]) 100 m (by kernel_rfl) hm ?_
    simp (config := { maxSteps := 1000000 }) only [SS, forall_const, wx, tguard, acallee, top, tval, fput, tor, vsh, vbin, tsl, tsl2, tsl3, tsl4, tsl5, Go.AM.bound, Int.reduceEq, Int.reduceNeg, Nat.reduceGT, Nat.reduceLT, Nat.reduceLeDiff, Nat.reduceEqDiff, ↓reduceIte, reduceCtorEq, Int.reduceToNat, Int.reduceLE, Int.reduceLT, Nat.reduceAdd, Nat.reduceMul, ff_26]
    repeat (first | apply WK.seq | apply WK.block | apply WK.skipSeq | apply WK.skipBlock | apply WK.retSeq | apply WK.retBlock | apply WK.exitSeq | apply WK.exitHere | refine WK.exitOn rfl ?_ | ((first | (refine WK.rgn ?_ ?_; kernel_rfl) | refine AtCall.now ?_); simp (config := { maxSteps := 1000000 }) only [SS, forall_const, wx, tguard, acallee, top, tval, fput, tor, vsh, vbin, tsl, tsl2, tsl3, tsl4, tsl5, Go.AM.bound, Int.reduceEq, Int.reduceNeg, Nat.reduceGT, Nat.reduceLT, Nat.reduceLeDiff, Nat.reduceEqDiff, ↓reduceIte, reduceCtorEq, Int.reduceToNat, Int.reduceLE, Int.reduceLT, Nat.reduceAdd, Nat.reduceMul, ff_26]) | (refine WK.condT ?_ ?_; focus (simp only [ev_tmp, ev_const, fset_apply, Nat.reduceEqDiff, ↓reduceIte, decide_true, decide_false, ff_26]; done)) | (refine WK.condF ?_ ?_; focus (simp only [ev_tmp, ev_const, fset_apply, Nat.reduceEqDiff, ↓reduceIte, decide_true, decide_false, ff_26]; done)))
    (first | refine WK.retNil ⟨Or.inr rfl, _, rfl, ?_, ?_⟩ | refine WK.skipNil ⟨Or.inl rfl, _, rfl, ?_, ?_⟩)
    · exact fun _ _ => rfl
    · simp only [packed, fset_apply, Nat.reduceEqDiff, ↓reduceIte, List.getD_cons_zero, List.getD_cons_succ, dN_ge hc, dN_lt (show m / 10 < 10 by omega), ff_26]
      exact ⟨rfl, trivial, trivial⟩
def bI (b : UInt8) : Int := (b.toNat : Int)
theorem bytes_list : ∀ l : List UInt8, bytesOf (l.map fun b => Value.int .u8 (bI b)) = some (l.map bI) := by
  intro l
  induction l with
  | nil => rfl
  | cons a l ih => simp only [List.map_cons, bytesOf, ih]; rfl
theorem nums_list (l : List UInt8) : strNums (l.map bI) = BA l := by
  unfold strNums BA
  rw [List.map_map]
  have : (l.map ((fun n : Int => UInt8.ofNat n.toNat) ∘ bI)) = l := by
    conv => rhs; rw [← List.map_id l]
    apply List.map_congr_left
    intro b _
    simp [bI]
  rw [this]
theorem astr0 {H : Heap} {y k m : Nat} {l : List UInt8} {cs : List Value} {ty : TypeId} {own : Bool} (h : H y = .cells cs ty own) (hm : m = l.length) (hk : k + m ≤ cs.length) (hl : (cs.drop k).take m = l.map fun b => Value.int .u8 (bI b)) :
    astring Tryd.prog 48 9 H (.slice (some ⟨y, k, some 0⟩) m m) = some { v := .string (BA l), rd := [y] } := by
  have h1 : Tryd.prog.underlying 48 = some (.slice 5) := by kernel_rfl
  have h2 : Tryd.prog.underlying 9 = some .string := by kernel_rfl
  have h3 : Tryd.prog.underlying 5 = some (.int .u8) := by kernel_rfl
  unfold astring
  simp only [h1, h2, h3, h]
  rw [if_pos hk, hl, bytes_list]
  simp only [Option.map_some, nums_list]
theorem numD_len {d : Nat} (h : 1 ≤ d) (hd : d < 9223372036854775808) : numD d = (dN d).length := by
  obtain ⟨a, b, c, _⟩ := numD_spec (by omega) hd
  obtain ⟨e, f⟩ := dN_least d
  have hp := dN_pos d
  have mono : ∀ x y : Nat, 10 ^ x < 10 ^ y → x < y := fun x y h => (Nat.pow_lt_pow_iff_right (by omega)).1 h
  have h1 : numD d - 1 < (dN d).length := mono _ _ (Nat.lt_of_le_of_lt a e)
  by_cases h10 : 10 ≤ d
  · have h2 : (dN d).length - 1 < numD d := mono _ _ (Nat.lt_of_le_of_lt (f h10) b)
    omega
  · have : (dN d).length = 1 := by rw [dN_lt (by omega)]; rfl
    omega
theorem dg_list {d k : Nat} {cs0 cs : List Value} (h : Dg d (dN d).length k cs0 cs 0) (hk : k + (dN d).length ≤ cs0.length) : (cs.drop k).take (dN d).length = (dN d).map fun b => Value.int .u8 (bI b) := by
  apply List.ext_getElem?
  intro q
  rw [List.getElem?_take, List.getElem?_drop, List.getElem?_map]
  by_cases hq : q < (dN d).length
  · rw [if_pos hq, h.2 (k + q), if_pos (by omega), dN_at d q hq, Option.map_some]
    rw [show k + (dN d).length - 1 - (k + q) = (dN d).length - 1 - q by omega]
    have : bI (UInt8.ofNat (48 + d / 10 ^ ((dN d).length - 1 - q) % 10)) = ((48 + d / 10 ^ ((dN d).length - 1 - q) % 10 : Nat) : Int) := by
      unfold bI
      rw [dig_nat (Nat.mod_lt _ (by omega))]
    rw [this]
  · rw [if_neg hq, List.getElem?_eq_none (by omega)]; rfl
theorem live_lt0 {n : Nat} {H : Heap} (hw : WF n H) {z : Nat} (h : H z ≠ .dead) : z < n := by
  apply Classical.byContradiction
  intro hc
  exact h (hw z (by omega))
def Tens (H : Heap) : Prop := H 0 = .cells tens 69 false
theorem Tens.kp {n n' : Nat} {H H' : Heap} (h : Tens H) (hw : WF n H) (hk : Kp n H n' H') : Tens H' := by
  unfold Tens at *
  rw [hk.keep _ (live_lt0 hw (by rw [h]; intro e; cases e)), h]
def z24 : List Value := List.replicate 24 (.int .u8 0)
theorem z24_eq : [Value.int .u8 (Int.ofNat 0), Value.int .u8 (Int.ofNat 0), Value.int .u8 (Int.ofNat 0), Value.int .u8 (Int.ofNat 0), Value.int .u8 (Int.ofNat 0), Value.int .u8 (Int.ofNat 0), Value.int .u8 (Int.ofNat 0), Value.int .u8 (Int.ofNat 0), Value.int .u8 (Int.ofNat 0), Value.int .u8 (Int.ofNat 0), Value.int .u8 (Int.ofNat 0), Value.int .u8 (Int.ofNat 0), Value.int .u8 (Int.ofNat 0), Value.int .u8 (Int.ofNat 0), Value.int .u8 (Int.ofNat 0), Value.int .u8 (Int.ofNat 0), Value.int .u8 (Int.ofNat 0), Value.int .u8 (Int.ofNat 0), Value.int .u8 (Int.ofNat 0), Value.int .u8 (Int.ofNat 0), Value.int .u8 (Int.ofNat 0), Value.int .u8 (Int.ofNat 0), Value.int .u8 (Int.ofNat 0), Value.int .u8 (Int.ofNat 0)] = z24 := rfl
theorem z24_len : z24.length = 24 := rfl
set_option maxHeartbeats 4000000 in
theorem fmtint_gives (z : Int) (h1 : -1 ≤ z) (h2 : z ≤ 9223372036854775807) {n : Nat} {H : Heap} (hw : WF n H) (ht : Tens H) :
    Gives Tryd.prog 25 [.int .i64 z, .int .i64 10] n H fun v _ _ => v = .string (BA (dI z)) := by
  refine Gives.of orders ok25 (Nat.le_of_ble_eq_true rfl) ?_
  have c10 : ((10 : Int) = 10) = True := by simp
  by_cases hs : 0 ≤ z ∧ z < 100
  · obtain ⟨m, rfl⟩ : ∃ m : Nat, z = (m : Int) := ⟨z.toNat, by omega⟩
    have hz0 : ((0 : Int) ≤ (m : Int)) = True := by simp
    have hz1 : ((m : Int) < 100) = True := by simp only [eq_iff_iff, iff_true]; omega
    repeat (first | apply WK.seq | apply WK.block | apply WK.skipSeq | apply WK.skipBlock | apply WK.retSeq | apply WK.retBlock | apply WK.exitSeq | apply WK.exitHere | refine WK.exitOn rfl ?_ | ((first | (refine WK.rgn ?_ ?_; kernel_rfl) | refine AtCall.now ?_); simp (config := { maxSteps := 1000000 }) only [SS, forall_const, wx, tguard, acallee, top, tval, fput, tor, vsh, vbin, vconv, vun, tstore, tstore2, tstore3, Go.AM.splice, one, tidx, tidx2, tidx3, tpick, textr, talloc, still, still1, flat1, tsl, tsl2, tsl3, tsl4, tsl5, Go.AM.bound, Int.reduceEq, Int.reduceNeg, Nat.reduceGT, Nat.reduceLT, Nat.reduceLeDiff, Nat.reduceEqDiff, ↓reduceIte, reduceCtorEq, Int.reduceToNat, Int.reduceLE, Int.reduceLT, Nat.reduceAdd, Nat.reduceMul, c10, hz0, hz1, ff_25]) | (refine WK.condT ?_ ?_; focus (simp only [ev_tmp, ev_const, fset_apply, Nat.reduceEqDiff, ↓reduceIte, decide_true, decide_false, c10, hz0, hz1, ff_25]; done)) | (refine WK.condF ?_ ?_; focus (simp only [ev_tmp, ev_const, fset_apply, Nat.reduceEqDiff, ↓reduceIte, decide_true, decide_false, c10, hz0, hz1, ff_25]; done)))
    refine AtCall.by (small_gives m (by omega) _ _) ?_
    rintro v n' H' hk ⟨rfl, rfl, rfl⟩
    simp (config := { maxSteps := 1000000 }) only [SS, forall_const, wx, tguard, acallee, top, tval, fput, tor, vsh, vbin, vconv, vun, tstore, tstore2, tstore3, Go.AM.splice, one, tidx, tidx2, tidx3, tpick, textr, talloc, still, still1, flat1, tsl, tsl2, tsl3, tsl4, tsl5, Go.AM.bound, Int.reduceEq, Int.reduceNeg, Nat.reduceGT, Nat.reduceLT, Nat.reduceLeDiff, Nat.reduceEqDiff, ↓reduceIte, reduceCtorEq, Int.reduceToNat, Int.reduceLE, Int.reduceLT, Nat.reduceAdd, Nat.reduceMul, ff_25]
    repeat (first | apply WK.seq | apply WK.block | apply WK.skipSeq | apply WK.skipBlock | apply WK.retSeq | apply WK.retBlock | apply WK.exitSeq | apply WK.exitHere | refine WK.exitOn rfl ?_ | ((first | (refine WK.rgn ?_ ?_; kernel_rfl) | refine AtCall.now ?_); simp (config := { maxSteps := 1000000 }) only [SS, forall_const, wx, tguard, acallee, top, tval, fput, tor, vsh, vbin, vconv, vun, tstore, tstore2, tstore3, Go.AM.splice, one, tidx, tidx2, tidx3, tpick, textr, talloc, still, still1, flat1, tsl, tsl2, tsl3, tsl4, tsl5, Go.AM.bound, Int.reduceEq, Int.reduceNeg, Nat.reduceGT, Nat.reduceLT, Nat.reduceLeDiff, Nat.reduceEqDiff, ↓reduceIte, reduceCtorEq, Int.reduceToNat, Int.reduceLE, Int.reduceLT, Nat.reduceAdd, Nat.reduceMul, ff_25]) | (refine WK.condT ?_ ?_; focus (simp only [ev_tmp, ev_const, fset_apply, Nat.reduceEqDiff, ↓reduceIte, decide_true, decide_false, ff_25]; done)) | (refine WK.condF ?_ ?_; focus (simp only [ev_tmp, ev_const, fset_apply, Nat.reduceEqDiff, ↓reduceIte, decide_true, decide_false, ff_25]; done)))
    (first | refine WK.retNil ⟨Or.inr rfl, _, rfl, ?_, ?_⟩ | refine WK.skipNil ⟨Or.inl rfl, _, rfl, ?_, ?_⟩)
    · exact fun _ _ => rfl
    · simp only [packed, fset_apply, Nat.reduceEqDiff, ↓reduceIte, List.getD_cons_zero, List.getD_cons_succ, ff_25]
      have : dI (m : Int) = dN m := by unfold dI; rw [if_neg (by omega)]; simp
      rw [this]
  · have hor : z = -1 ∨ 100 ≤ z := by omega
    rcases hor with rfl | hz
    · have hz0 : ((0 : Int) ≤ -1) = False := by simp
      have hz1 : ((-1 : Int) < 100) = True := by simp
      have hz2 : ((-1 : Int) < 0) = True := by simp
      have hw1 : IntKind.u64.wrap (-1) = 18446744073709551615 := rfl
      have hw2 : IntKind.u64.wrap (0 - 18446744073709551615) = 1 := rfl
      have hN : numD 1 = 1 := by rw [numD_len (by omega) (by omega), dN_lt (by omega)]; rfl
      repeat (first | apply WK.seq | apply WK.block | apply WK.skipSeq | apply WK.skipBlock | apply WK.retSeq | apply WK.retBlock | apply WK.exitSeq | apply WK.exitHere | refine WK.exitOn rfl ?_ | ((first | (refine WK.rgn ?_ ?_; kernel_rfl) | refine AtCall.now ?_); simp (config := { maxSteps := 1000000 }) only [SS, forall_const, wx, tguard, acallee, top, tval, fput, tor, vsh, vbin, vconv, vun, tstore, tstore2, tstore3, Go.AM.splice, one, tidx, tidx2, tidx3, tpick, textr, talloc, still, still1, flat1, tsl, tsl2, tsl3, tsl4, tsl5, Go.AM.bound, Int.reduceEq, Int.reduceNeg, Nat.reduceGT, Nat.reduceLT, Nat.reduceLeDiff, Nat.reduceEqDiff, ↓reduceIte, reduceCtorEq, Int.reduceToNat, Int.reduceLE, Int.reduceLT, Nat.reduceAdd, Nat.reduceMul, c10, hz0, hz1, hz2, hw1, hw2, z24_eq, ff_25]) | (refine WK.condT ?_ ?_; focus (simp only [ev_tmp, ev_const, fset_apply, Nat.reduceEqDiff, ↓reduceIte, decide_true, decide_false, c10, hz0, hz1, hz2, hw1, hw2, z24_eq, ff_25]; done)) | (refine WK.condF ?_ ?_; focus (simp only [ev_tmp, ev_const, fset_apply, Nat.reduceEqDiff, ↓reduceIte, decide_true, decide_false, c10, hz0, hz1, hz2, hw1, hw2, z24_eq, ff_25]; done)))
      have hk0 := Kp.new n H (.cells z24 61 true)
      have hb := hset_at H n (.cells z24 61 true)
      generalize hset H n (.cells z24 61 true) = H1 at *
      have hw' := hk0.wf hw
      refine AtCall.by (digits_gives 1 (by omega) (ht.kp hw hk0)) ?_
      rintro v n2 H2 hk ⟨rfl, rfl, rfl⟩
      rw [hN, show ((1 : Nat) : Int) = 1 from rfl]
      have ha : IntKind.i64.wrap (1 + 1) = 2 := rfl
      have q5 : 24 ≤ maxLen := by unfold maxLen; omega
      simp (config := { maxSteps := 1000000 }) only [SS, forall_const, wx, tguard, acallee, top, tval, fput, tor, vsh, vbin, vconv, vun, tstore, tstore2, tstore3, Go.AM.splice, one, tidx, tidx2, tidx3, tpick, textr, talloc, still, still1, flat1, tsl, tsl2, tsl3, tsl4, tsl5, Go.AM.bound, Int.reduceEq, Int.reduceNeg, Nat.reduceGT, Nat.reduceLT, Nat.reduceLeDiff, Nat.reduceEqDiff, ↓reduceIte, reduceCtorEq, Int.reduceToNat, Int.reduceLE, Int.reduceLT, Nat.reduceAdd, Nat.reduceMul, ff_25]
      repeat (first | apply WK.seq | apply WK.block | apply WK.skipSeq | apply WK.skipBlock | apply WK.retSeq | apply WK.retBlock | apply WK.exitSeq | apply WK.exitHere | refine WK.exitOn rfl ?_ | ((first | (refine WK.rgn ?_ ?_; kernel_rfl) | refine AtCall.now ?_); simp (config := { maxSteps := 1000000 }) only [SS, forall_const, wx, tguard, acallee, top, tval, fput, tor, vsh, vbin, vconv, vun, tstore, tstore2, tstore3, Go.AM.splice, one, tidx, tidx2, tidx3, tpick, textr, talloc, still, still1, flat1, tsl, tsl2, tsl3, tsl4, tsl5, Go.AM.bound, Int.reduceEq, Int.reduceNeg, Nat.reduceGT, Nat.reduceLT, Nat.reduceLeDiff, Nat.reduceEqDiff, ↓reduceIte, reduceCtorEq, Int.reduceToNat, Int.reduceLE, Int.reduceLT, Nat.reduceAdd, Nat.reduceMul, ha, q5, ff_25]) | (refine WK.condT ?_ ?_; focus (simp only [ev_tmp, ev_const, fset_apply, Nat.reduceEqDiff, ↓reduceIte, decide_true, decide_false, ha, q5, ff_25]; done)) | (refine WK.condF ?_ ?_; focus (simp only [ev_tmp, ev_const, fset_apply, Nat.reduceEqDiff, ↓reduceIte, decide_true, decide_false, ha, q5, ff_25]; done)))
      refine AtCall.byX (base10_gives (L := 1) (k := 1) (d := 1) hb (by rw [z24_len]; omega) (by omega) (by omega) (by omega)) ?_
      rintro v n3 H3 kx ⟨rfl, cs, hx1, hg⟩
      have hcl : cs.length = 24 := by rw [hg.1, z24_len]
      have hc1 : cs[1]? = some (Value.int .u8 49) := by rw [hg.2 1, if_pos (by omega)]; rfl
      have hst : astring Tryd.prog 48 9 (hset H3 n (.cells (cs.set 0 (Value.int .u8 45)) 61 true)) (.slice (some ⟨n, 0, some 0⟩) 2 2) = some { v := .string (BA (dI (-1))), rd := [n] } := by
        refine astr0 (l := dI (-1)) (hset_at _ _ _) ?_ (by simp [hcl]) ?_
        · have : dI (-1) = [45, 49] := by unfold dI; rw [if_pos (by omega), show (Int.natAbs (-1)) = 1 from rfl, dN_lt (by omega)]; rfl
          rw [this]; rfl
        · have : dI (-1) = [45, 49] := by unfold dI; rw [if_pos (by omega), show (Int.natAbs (-1)) = 1 from rfl, dN_lt (by omega)]; rfl
          rw [this]
          apply List.ext_getElem?
          intro q
          match q with
          | 0 => rw [List.getElem?_take, if_pos (by omega), List.getElem?_drop, List.getElem?_set]; simp [hcl, bI]
          | 1 => rw [List.getElem?_take, if_pos (by omega), List.getElem?_drop, List.getElem?_set_ne (by omega), hc1]; rfl
          | q + 2 => rw [List.getElem?_take, if_neg (by omega)]; rfl
      have hc0 : (0 : Nat) < cs.length := by omega
      have hc24 : 0 + 1 ≤ cs.length := by omega
      have h24 : ((0 : Int) < ((24 : Nat) : Int)) = True := by simp
      simp (config := { maxSteps := 1000000 }) only [SS, forall_const, wx, tguard, acallee, top, tval, fput, tor, vsh, vbin, vconv, vun, tstore, tstore2, tstore3, Go.AM.splice, one, tidx, tidx2, tidx3, tpick, textr, talloc, still, still1, flat1, tsl, tsl2, tsl3, tsl4, tsl5, Go.AM.bound, Int.reduceEq, Int.reduceNeg, Nat.reduceGT, Nat.reduceLT, Nat.reduceLeDiff, Nat.reduceEqDiff, ↓reduceIte, reduceCtorEq, Int.reduceToNat, Int.reduceLE, Int.reduceLT, Nat.reduceAdd, Nat.reduceMul, ha, q5, hz2, aop_cv, acv, hst, hx1, hc0, hc24, h24, ff_25]
      repeat (first | apply WK.seq | apply WK.block | apply WK.skipSeq | apply WK.skipBlock | apply WK.retSeq | apply WK.retBlock | apply WK.exitSeq | apply WK.exitHere | refine WK.exitOn rfl ?_ | ((first | (refine WK.rgn ?_ ?_; kernel_rfl) | refine AtCall.now ?_); simp (config := { maxSteps := 1000000 }) only [SS, forall_const, wx, tguard, acallee, top, tval, fput, tor, vsh, vbin, vconv, vun, tstore, tstore2, tstore3, Go.AM.splice, one, tidx, tidx2, tidx3, tpick, textr, talloc, still, still1, flat1, tsl, tsl2, tsl3, tsl4, tsl5, Go.AM.bound, Int.reduceEq, Int.reduceNeg, Nat.reduceGT, Nat.reduceLT, Nat.reduceLeDiff, Nat.reduceEqDiff, ↓reduceIte, reduceCtorEq, Int.reduceToNat, Int.reduceLE, Int.reduceLT, Nat.reduceAdd, Nat.reduceMul, ha, q5, hz2, aop_cv, acv, hst, hx1, hc0, hc24, h24, ff_25]) | (refine WK.condT ?_ ?_; focus (simp only [ev_tmp, ev_const, fset_apply, Nat.reduceEqDiff, ↓reduceIte, decide_true, decide_false, ha, q5, hz2, aop_cv, acv, hst, hx1, hc0, hc24, h24, ff_25]; done)) | (refine WK.condF ?_ ?_; focus (simp only [ev_tmp, ev_const, fset_apply, Nat.reduceEqDiff, ↓reduceIte, decide_true, decide_false, ha, q5, hz2, aop_cv, acv, hst, hx1, hc0, hc24, h24, ff_25]; done)))
      (first | refine WK.retNil ⟨Or.inr rfl, _, rfl, ?_, ?_⟩ | refine WK.skipNil ⟨Or.inl rfl, _, rfl, ?_, ?_⟩)
      · intro y hy
        show hset H3 n _ y = H y
        rw [hset_ne _ _ _ (by omega), kx.keep y (by omega) (by omega)]; exact hk0.keep y hy
      · simp only [packed, fset_apply, Nat.reduceEqDiff, ↓reduceIte, List.getD_cons_zero, List.getD_cons_succ, ff_25]
    obtain ⟨m, rfl⟩ : ∃ m : Nat, z = (m : Int) := ⟨z.toNat, by omega⟩
    have hm : m < 9223372036854775808 := by omega
    have hz0 : ((0 : Int) ≤ (m : Int)) = True := by simp
    have hz1 : ((m : Int) < 100) = False := by simp only [eq_iff_iff, iff_false]; omega
    have hz2 : ((m : Int) < 0) = False := by simp only [eq_iff_iff, iff_false]; omega
    have hw1 : IntKind.u64.wrap (m : Int) = (m : Int) := by rw [wrap_u64]; omega
    have hL := numD_len (d := m) (by omega) hm
    obtain ⟨e1, e2, e3, e4⟩ := numD_spec (d := m) (by omega) hm
    rw [hL] at e1 e2 e3 e4
    have hDI : dI (m : Int) = dN m := by unfold dI; rw [if_neg (by omega)]; simp
    rw [hDI]
    repeat (first | apply WK.seq | apply WK.block | apply WK.skipSeq | apply WK.skipBlock | apply WK.retSeq | apply WK.retBlock | apply WK.exitSeq | apply WK.exitHere | refine WK.exitOn rfl ?_ | ((first | (refine WK.rgn ?_ ?_; kernel_rfl) | refine AtCall.now ?_); simp (config := { maxSteps := 1000000 }) only [SS, forall_const, wx, tguard, acallee, top, tval, fput, tor, vsh, vbin, vconv, vun, tstore, tstore2, tstore3, Go.AM.splice, one, tidx, tidx2, tidx3, tpick, textr, talloc, still, still1, flat1, tsl, tsl2, tsl3, tsl4, tsl5, Go.AM.bound, Int.reduceEq, Int.reduceNeg, Nat.reduceGT, Nat.reduceLT, Nat.reduceLeDiff, Nat.reduceEqDiff, ↓reduceIte, reduceCtorEq, Int.reduceToNat, Int.reduceLE, Int.reduceLT, Nat.reduceAdd, Nat.reduceMul, c10, hz0, hz1, hz2, hw1, z24_eq, ff_25]) | (refine WK.condT ?_ ?_; focus (simp only [ev_tmp, ev_const, fset_apply, Nat.reduceEqDiff, ↓reduceIte, decide_true, decide_false, c10, hz0, hz1, hz2, hw1, z24_eq, ff_25]; done)) | (refine WK.condF ?_ ?_; focus (simp only [ev_tmp, ev_const, fset_apply, Nat.reduceEqDiff, ↓reduceIte, decide_true, decide_false, c10, hz0, hz1, hz2, hw1, z24_eq, ff_25]; done)))
    have hk0 := Kp.new n H (.cells z24 61 true)
    have hb := hset_at H n (.cells z24 61 true)
    generalize hset H n (.cells z24 61 true) = H1 at *
    have hw' := hk0.wf hw
    refine AtCall.by (digits_gives m hm (ht.kp hw hk0)) ?_
    rintro v n2 H2 hk ⟨rfl, rfl, rfl⟩
    rw [hL]
    have ha : IntKind.i64.wrap (1 + (((dN m).length : Nat) : Int)) = ((1 + (dN m).length : Nat) : Int) := by rw [wrap_in (by omega) (by omega)]; simp
    generalize hlen : (dN m).length = L at *
    have q1 : (1 : Int) ≤ ((1 + L : Nat) : Int) := by omega
    have q2 : (0 : Int) ≤ ((1 + L : Nat) : Int) := by omega
    have q3 : 1 ≤ 1 + L := by omega
    have q4 : 1 + L ≤ 24 := by omega
    have q5 : 24 ≤ maxLen := by unfold maxLen; omega
    have q6 : 1 + L - 1 = L := by omega
    simp (config := { maxSteps := 1000000 }) only [SS, forall_const, wx, tguard, acallee, top, tval, fput, tor, vsh, vbin, vconv, vun, tstore, tstore2, tstore3, Go.AM.splice, one, tidx, tidx2, tidx3, tpick, textr, talloc, still, still1, flat1, tsl, tsl2, tsl3, tsl4, tsl5, Go.AM.bound, Int.reduceEq, Int.reduceNeg, Nat.reduceGT, Nat.reduceLT, Nat.reduceLeDiff, Nat.reduceEqDiff, ↓reduceIte, reduceCtorEq, Int.reduceToNat, Int.reduceLE, Int.reduceLT, Nat.reduceAdd, Nat.reduceMul, ff_25]
    repeat (first | apply WK.seq | apply WK.block | apply WK.skipSeq | apply WK.skipBlock | apply WK.retSeq | apply WK.retBlock | apply WK.exitSeq | apply WK.exitHere | refine WK.exitOn rfl ?_ | ((first | (refine WK.rgn ?_ ?_; kernel_rfl) | refine AtCall.now ?_); simp (config := { maxSteps := 1000000 }) only [SS, forall_const, wx, tguard, acallee, top, tval, fput, tor, vsh, vbin, vconv, vun, tstore, tstore2, tstore3, Go.AM.splice, one, tidx, tidx2, tidx3, tpick, textr, talloc, still, still1, flat1, tsl, tsl2, tsl3, tsl4, tsl5, Go.AM.bound, Int.reduceEq, Int.reduceNeg, Nat.reduceGT, Nat.reduceLT, Nat.reduceLeDiff, Nat.reduceEqDiff, ↓reduceIte, reduceCtorEq, Int.reduceToNat, Int.reduceLE, Int.reduceLT, Nat.reduceAdd, Nat.reduceMul, ha, q1, q2, q3, q4, q5, q6, Int.toNat_natCast, ff_25]) | (refine WK.condT ?_ ?_; focus (simp only [ev_tmp, ev_const, fset_apply, Nat.reduceEqDiff, ↓reduceIte, decide_true, decide_false, ha, q1, q2, q3, q4, q5, q6, Int.toNat_natCast, ff_25]; done)) | (refine WK.condF ?_ ?_; focus (simp only [ev_tmp, ev_const, fset_apply, Nat.reduceEqDiff, ↓reduceIte, decide_true, decide_false, ha, q1, q2, q3, q4, q5, q6, Int.toNat_natCast, ff_25]; done)))
    refine AtCall.byX (base10_gives (L := L) (k := 1) (d := m) hb (by rw [z24_len]; omega) (by omega) (by omega) e2) ?_
    rintro v n3 H3 kx ⟨rfl, cs, hx1, hg⟩
    have hcl : cs.length = 24 := by rw [hg.1, z24_len]
    have hcs : (cs.drop 1).take L = (dN m).map fun b => Value.int .u8 (bI b) := by
      have h5 := dg_list (d := m) (k := 1) (cs0 := z24) (cs := cs) (by rw [hlen]; exact hg) (by rw [hlen, z24_len]; omega)
      rw [hlen] at h5; exact h5
    have hst := astr0 hx1 hlen.symm (by omega) hcs
    simp (config := { maxSteps := 1000000 }) only [SS, forall_const, wx, tguard, acallee, top, tval, fput, tor, vsh, vbin, vconv, vun, tstore, tstore2, tstore3, Go.AM.splice, one, tidx, tidx2, tidx3, tpick, textr, talloc, still, still1, flat1, tsl, tsl2, tsl3, tsl4, tsl5, Go.AM.bound, Int.reduceEq, Int.reduceNeg, Nat.reduceGT, Nat.reduceLT, Nat.reduceLeDiff, Nat.reduceEqDiff, ↓reduceIte, reduceCtorEq, Int.reduceToNat, Int.reduceLE, Int.reduceLT, Nat.reduceAdd, Nat.reduceMul, ha, q1, q2, q3, q4, q5, q6, hz2, aop_cv, acv, hst, Int.toNat_natCast, ff_25]
    repeat (first | apply WK.seq | apply WK.block | apply WK.skipSeq | apply WK.skipBlock | apply WK.retSeq | apply WK.retBlock | apply WK.exitSeq | apply WK.exitHere | refine WK.exitOn rfl ?_ | ((first | (refine WK.rgn ?_ ?_; kernel_rfl) | refine AtCall.now ?_); simp (config := { maxSteps := 1000000 }) only [SS, forall_const, wx, tguard, acallee, top, tval, fput, tor, vsh, vbin, vconv, vun, tstore, tstore2, tstore3, Go.AM.splice, one, tidx, tidx2, tidx3, tpick, textr, talloc, still, still1, flat1, tsl, tsl2, tsl3, tsl4, tsl5, Go.AM.bound, Int.reduceEq, Int.reduceNeg, Nat.reduceGT, Nat.reduceLT, Nat.reduceLeDiff, Nat.reduceEqDiff, ↓reduceIte, reduceCtorEq, Int.reduceToNat, Int.reduceLE, Int.reduceLT, Nat.reduceAdd, Nat.reduceMul, ha, q1, q2, q3, q4, q5, q6, hz2, aop_cv, acv, hst, Int.toNat_natCast, ff_25]) | (refine WK.condT ?_ ?_; focus (simp only [ev_tmp, ev_const, fset_apply, Nat.reduceEqDiff, ↓reduceIte, decide_true, decide_false, ha, q1, q2, q3, q4, q5, q6, hz2, aop_cv, acv, hst, Int.toNat_natCast, ff_25]; done)) | (refine WK.condF ?_ ?_; focus (simp only [ev_tmp, ev_const, fset_apply, Nat.reduceEqDiff, ↓reduceIte, decide_true, decide_false, ha, q1, q2, q3, q4, q5, q6, hz2, aop_cv, acv, hst, Int.toNat_natCast, ff_25]; done)))
    (first | refine WK.retNil ⟨Or.inr rfl, _, rfl, ?_, ?_⟩ | refine WK.skipNil ⟨Or.inl rfl, _, rfl, ?_, ?_⟩)
    · intro y hy
      show H3 y = H y
      rw [kx.keep y (by omega) (by omega)]; exact hk0.keep y hy
    · simp only [packed, fset_apply, Nat.reduceEqDiff, ↓reduceIte, List.getD_cons_zero, List.getD_cons_succ, ff_25]
theorem itoa1_gives (z : Int) (h1 : -1 ≤ z) (h2 : z ≤ 9223372036854775807) {n : Nat} {H : Heap} (hw : WF n H) (ht : Tens H) :
    Gives Tryd.prog 23 [.int .i64 z] n H fun v _ _ => v = .string (BA (dI z)) := by
  refine Gives.of orders ok23 (Nat.le_of_ble_eq_true rfl) ?_
  repeat (first | apply WK.seq | apply WK.block | apply WK.skipSeq | apply WK.skipBlock | apply WK.retSeq | apply WK.retBlock | apply WK.exitSeq | apply WK.exitHere | refine WK.exitOn rfl ?_ | ((first | (refine WK.rgn ?_ ?_; kernel_rfl) | refine AtCall.now ?_); simp (config := { maxSteps := 1000000 }) only [SS, forall_const, wx, tguard, acallee, top, tval, fput, Int.reduceEq, Int.reduceNeg, Nat.reduceGT, Nat.reduceLT, Nat.reduceLeDiff, Nat.reduceEqDiff, ↓reduceIte, reduceCtorEq, Int.reduceToNat, Int.reduceLE, Int.reduceLT, Nat.reduceAdd, Nat.reduceMul]) | (refine WK.condT ?_ ?_; focus (simp only [ev_tmp, ev_const, fset_apply, Nat.reduceEqDiff, ↓reduceIte, decide_true, decide_false]; done)) | (refine WK.condF ?_ ?_; focus (simp only [ev_tmp, ev_const, fset_apply, Nat.reduceEqDiff, ↓reduceIte, decide_true, decide_false]; done)))
  refine AtCall.by (fmtint_gives z h1 h2 hw ht) ?_
  rintro v n' H' hk rfl
  simp (config := { maxSteps := 1000000 }) only [SS, forall_const, wx, tguard, acallee, top, tval, fput, Int.reduceEq, Int.reduceNeg, Nat.reduceGT, Nat.reduceLT, Nat.reduceLeDiff, Nat.reduceEqDiff, ↓reduceIte, reduceCtorEq, Int.reduceToNat, Int.reduceLE, Int.reduceLT, Nat.reduceAdd, Nat.reduceMul]
  repeat (first | apply WK.seq | apply WK.block | apply WK.skipSeq | apply WK.skipBlock | apply WK.retSeq | apply WK.retBlock | apply WK.exitSeq | apply WK.exitHere | refine WK.exitOn rfl ?_ | ((first | (refine WK.rgn ?_ ?_; kernel_rfl) | refine AtCall.now ?_); simp (config := { maxSteps := 1000000 }) only [SS, forall_const, wx, tguard, acallee, top, tval, fput, Int.reduceEq, Int.reduceNeg, Nat.reduceGT, Nat.reduceLT, Nat.reduceLeDiff, Nat.reduceEqDiff, ↓reduceIte, reduceCtorEq, Int.reduceToNat, Int.reduceLE, Int.reduceLT, Nat.reduceAdd, Nat.reduceMul]) | (refine WK.condT ?_ ?_; focus (simp only [ev_tmp, ev_const, fset_apply, Nat.reduceEqDiff, ↓reduceIte, decide_true, decide_false]; done)) | (refine WK.condF ?_ ?_; focus (simp only [ev_tmp, ev_const, fset_apply, Nat.reduceEqDiff, ↓reduceIte, decide_true, decide_false]; done)))
  (first | refine WK.retNil ⟨Or.inr rfl, _, rfl, ?_, ?_⟩ | refine WK.skipNil ⟨Or.inl rfl, _, rfl, ?_, ?_⟩)
  · exact hk.keep
  · simp only [packed, fset_apply, Nat.reduceEqDiff, ↓reduceIte, List.getD_cons_zero, List.getD_cons_succ]
theorem itoa_gives (z : Int) (h1 : -1 ≤ z) (h2 : z ≤ 9223372036854775807) {n : Nat} {H : Heap} (hw : WF n H) (ht : Tens H) :
    Gives Tryd.prog 20 [.int .i64 z] n H fun v _ _ => v = .string (BA (dI z)) := by
  refine Gives.of orders ok20 (Nat.le_of_ble_eq_true rfl) ?_
  repeat (first | apply WK.seq | apply WK.block | apply WK.skipSeq | apply WK.skipBlock | apply WK.retSeq | apply WK.retBlock | apply WK.exitSeq | apply WK.exitHere | refine WK.exitOn rfl ?_ | ((first | (refine WK.rgn ?_ ?_; kernel_rfl) | refine AtCall.now ?_); simp (config := { maxSteps := 1000000 }) only [SS, forall_const, wx, tguard, acallee, top, tval, fput, Int.reduceEq, Int.reduceNeg, Nat.reduceGT, Nat.reduceLT, Nat.reduceLeDiff, Nat.reduceEqDiff, ↓reduceIte, reduceCtorEq, Int.reduceToNat, Int.reduceLE, Int.reduceLT, Nat.reduceAdd, Nat.reduceMul]) | (refine WK.condT ?_ ?_; focus (simp only [ev_tmp, ev_const, fset_apply, Nat.reduceEqDiff, ↓reduceIte, decide_true, decide_false]; done)) | (refine WK.condF ?_ ?_; focus (simp only [ev_tmp, ev_const, fset_apply, Nat.reduceEqDiff, ↓reduceIte, decide_true, decide_false]; done)))
  refine AtCall.by (itoa1_gives z h1 h2 hw ht) ?_
  rintro v n' H' hk rfl
  simp (config := { maxSteps := 1000000 }) only [SS, forall_const, wx, tguard, acallee, top, tval, fput, Int.reduceEq, Int.reduceNeg, Nat.reduceGT, Nat.reduceLT, Nat.reduceLeDiff, Nat.reduceEqDiff, ↓reduceIte, reduceCtorEq, Int.reduceToNat, Int.reduceLE, Int.reduceLT, Nat.reduceAdd, Nat.reduceMul]
  repeat (first | apply WK.seq | apply WK.block | apply WK.skipSeq | apply WK.skipBlock | apply WK.retSeq | apply WK.retBlock | apply WK.exitSeq | apply WK.exitHere | refine WK.exitOn rfl ?_ | ((first | (refine WK.rgn ?_ ?_; kernel_rfl) | refine AtCall.now ?_); simp (config := { maxSteps := 1000000 }) only [SS, forall_const, wx, tguard, acallee, top, tval, fput, Int.reduceEq, Int.reduceNeg, Nat.reduceGT, Nat.reduceLT, Nat.reduceLeDiff, Nat.reduceEqDiff, ↓reduceIte, reduceCtorEq, Int.reduceToNat, Int.reduceLE, Int.reduceLT, Nat.reduceAdd, Nat.reduceMul]) | (refine WK.condT ?_ ?_; focus (simp only [ev_tmp, ev_const, fset_apply, Nat.reduceEqDiff, ↓reduceIte, decide_true, decide_false]; done)) | (refine WK.condF ?_ ?_; focus (simp only [ev_tmp, ev_const, fset_apply, Nat.reduceEqDiff, ↓reduceIte, decide_true, decide_false]; done)))
  (first | refine WK.retNil ⟨Or.inr rfl, _, rfl, ?_, ?_⟩ | refine WK.skipNil ⟨Or.inl rfl, _, rfl, ?_, ?_⟩)
  · exact hk.keep
  · simp only [packed, fset_apply, Nat.reduceEqDiff, ↓reduceIte, List.getD_cons_zero, List.getD_cons_succ]
end Go.Proofs.YtgnmaekfiifepaaDoor

namespace Go.Proofs.YtgnmaekfiifepaaDoor
open Go.AM
set_option maxRecDepth 100000
def G : Heap := fun x => cond (Nat.beq x 0) (.cells tens 69 false) .dead
noncomputable def GT : Trie AObj := (Trie.bare 14 0).set 0 (.cells tens 69 false)
theorem GT_get : GT.get .dead = G := by
  funext x
  show Trie.get AObj.dead ((Trie.bare 14 0 : Trie AObj).set 0 (AObj.cells tens 69 false)) x = _
  rw [Trie.set_get, Trie.bare_get]
  rfl
theorem G_spec (x : Nat) (h : G x ≠ .dead) : x < ngl Tryd.prog ∧ ∃ cs ty, G x = .cells cs ty false ∧ cs.all flat1 = true := by
  have h3 : 0 < ngl Tryd.prog := by exact of_decide_eq_true (by kernel_rfl)
  unfold G at h ⊢
  cases e3 : Nat.beq x 0 with
  | true => rw [Nat.eq_of_beq_eq_true e3]; exact ⟨h3, _, _, rfl, tens_flat⟩
  | false => simp [e3] at h
theorem tens_of {H : Heap} (hG : ∀ x, G x ≠ .dead → H x = G x) : Tens H := by
  have h : G 0 = .cells tens 69 false := rfl
  unfold Tens
  rw [hG _ (by rw [h]; intro e; cases e), h]
theorem alive_ev : (evCallT Tryd.prog (fun g => fns.contains g) 20000 0 5 [] (ngl Tryd.prog) GT).map (·.1) = some (.bool true) := by kernel_rfl
theorem alive_gives (n : Nat) (H : Heap) (hG : ∀ x, G x ≠ .dead → H x = G x) : Gives Tryd.prog 5 [] n H fun v n' H' => v = .bool true ∧ n' = n ∧ H' = H := by
  have h := alive_ev
  cases he : evCallT Tryd.prog (fun g => fns.contains g) 20000 0 5 [] (ngl Tryd.prog) GT with
  | none => rw [he] at h; cases h
  | some r =>
    obtain ⟨v, n1, H1⟩ := r
    rw [he] at h
    simp only [Option.map_some, Option.some.injEq] at h
    subst h
    have he2 := evCallT_eq _ _ _ _ _ _ _ _ _ he
    rw [GT_get] at he2
    obtain ⟨h1, _⟩ := evCall_sound orders oks 20000 _ _ _ _ _ _ _ _ he2
    refine ⟨.bool true, n, H, .closed h1 (fun x hx => ?_) (fun x hx => ⟨(G_spec x hx).2, hG x hx⟩), Kp.refl n H, rfl, rfl, rfl⟩
    apply Classical.byContradiction
    intro hd
    have := (G_spec x hd).1
    omega
end Go.Proofs.YtgnmaekfiifepaaDoor

namespace Go.Proofs.YtgnmaekfiifepaaDoor
open Go.AM
set_option maxRecDepth 100000
theorem gTypes : (Tryd.prog.globals[0]?).map (·.type) = some 69 := by kernel_rfl
theorem globs {W : World} {l : List (String × DataW Unit)} (h : laidMet Tryd.prog l W) (hs : W.ShapedOpen Tryd.prog)
    (l2 : ∃ i : Nat, l[i]? = some ("internal/strconv.uint64pow10", Rows.laid_internal_strconv_uint64pow10)) : Globs Tryd.prog W G := by
  obtain ⟨ps, hl, _, _⟩ := h
  have c3 : ∀ (i : Nat) (v : Value), tens[i]? = some v → W.cell? ⟨0, i, none⟩ = some v := by
    obtain ⟨i, e⟩ := l2
    obtain ⟨g, t, cs, fuel, p, h1, h2, h3, h4⟩ := laid_at hl i _ _ e
    obtain rfl := Option.some.inj ((show Tryd.prog.globalNamed "internal/strconv.uint64pow10" = some 0 by kernel_rfl).symm.trans h1)
    obtain rfl := Option.some.inj (gTypes.symm.trans h2)
    have hc : cs.toList = tens := Lib.cells_of_tab (n := 20) (e := 62) (k := .u64) (zs := [1, 10, 100, 1000, 10000, 100000, 1000000, 10000000, 100000000, 1000000000, 10000000000, 100000000000, 1000000000000, 10000000000000, 100000000000000, 1000000000000000, 10000000000000000, 100000000000000000, 1000000000000000000, 10000000000000000000]) (by kernel_rfl) (by kernel_rfl) (by kernel_rfl) (by kernel_rfl) h4
    intro i v e
    rw [World.var?_cell h1 h3 i]
    rw [← hc] at e
    simpa using e
  refine ⟨fun x hx => ?_, fun x hx => ?_, ?_, ?_⟩
  · apply Classical.byContradiction
    intro hd
    have := (G_spec x hd).1
    omega
  · unfold G at hx ⊢
    cases e3 : Nat.beq x 0 with
    | true => rw [Nat.eq_of_beq_eq_true e3]; exact ⟨_, _, rfl, tens_flat, c3⟩
    | false => simp [e3] at hx
  · have hlast : ngl Tryd.prog - 1 < W.heap.size := by
      have hsome : (((begin Tryd.prog (fun _ _ => 0) default).world.heap[ngl Tryd.prog - 1]?).bind Obj.row?).isSome = true := by kernel_rfl
      obtain ⟨⟨z, t⟩, hz⟩ := Option.isSome_iff_exists.1 hsome
      exact heap_of_shaped hs (of_decide_eq_true (by kernel_rfl)) hz
    omega
  · have hsome : (((begin Tryd.prog (fun _ _ => 0) default).world.heap[ngl Tryd.prog - 1]?).bind Obj.row?).isSome = true := by kernel_rfl
    obtain ⟨⟨z, t⟩, hz⟩ := Option.isSome_iff_exists.1 hsome
    have := heap_of_shaped hs (of_decide_eq_true (by kernel_rfl)) hz
    omega
noncomputable def deB32 : List Value := [0, 1, 28, 2, 29, 14, 24, 3, 30, 22, 20, 15, 25, 17, 4, 8, 31, 27, 13, 23, 21, 19, 16, 7, 26, 12, 18, 6, 11, 5, 10, 9].map (Value.int .u8)
noncomputable def deB64 : List Value := [0, 1, 56, 2, 57, 49, 28, 3, 61, 58, 42, 50, 38, 29, 17, 4, 62, 47, 59, 36, 45, 43, 51, 22, 53, 39, 33, 30, 24, 18, 12, 5, 63, 55, 48, 27, 60, 41, 37, 16, 46, 35, 44, 21, 52, 32, 23, 11, 54, 26, 40, 15, 34, 20, 31, 10, 25, 14, 19, 9, 13, 8, 7, 6].map (Value.int .u8)
noncomputable def rest : List Obj := [.cells ((List.range Tryd.prog.types.size).map fun i => .int .u64 i).toArray 0, .map #[] 0, .finalizers #[] none, .cells #[.bool false] 0, .finalizers #[] none]
noncomputable def laidHeap : Array Obj := (([.cells tens.toArray 69, .cells deB32.toArray 76, .cells deB64.toArray 77] : List Obj) ++ rest).toArray
noncomputable def laidWorld (os : Os) : World := { World.settled Tryd.prog os with heap := laidHeap }
theorem laid_world (w : World) (hw : w.heap = laidHeap) : laidMet Tryd.prog Rows.miniLeastsRow.laid w := by
  have hv : ∀ (nm : String) (g : Nat) (cs : List Value) (t : TypeId), Tryd.prog.globalNamed nm = some g → laidHeap[g]? = some (.cells cs.toArray t (0, 0)) → w.var? Tryd.prog nm = some cs.toArray := by
    intro nm g cs t h1 h2
    unfold World.var?
    rw [h1, hw]
    simp [h2]
  refine laidMet_mk (ps := MemPlace.row ⟨1, 0, none⟩ 32 ++ [] ++ (MemPlace.row ⟨2, 0, none⟩ 64 ++ [] ++ (MemPlace.row ⟨0, 0, none⟩ 20 ++ [] ++ []))) 1400 [1, 2, 0] ?_ (by kernel_rfl) (by kernel_rfl) ?_
  · exact ⟨1, 76, deB32.toArray, 2, [], _, by kernel_rfl, by kernel_rfl, hv "math/bits.deBruijn32tab" 1 deB32 76 (by kernel_rfl) rfl, by kernel_rfl, ⟨2, 77, deB64.toArray, 2, [], _, by kernel_rfl, by kernel_rfl, hv "math/bits.deBruijn64tab" 2 deB64 77 (by kernel_rfl) rfl, by kernel_rfl, ⟨0, 69, tens.toArray, 2, [], _, by kernel_rfl, by kernel_rfl, hv "internal/strconv.uint64pow10" 0 tens 69 (by kernel_rfl) rfl, by kernel_rfl, rfl, rfl⟩, rfl⟩, rfl⟩
  · intro b hb
    simp only [List.mem_cons, List.mem_nil_iff, or_false] at hb
    rcases hb with rfl | rfl | rfl
    · exact ⟨(deB32).toArray, 76, by rw [hw]; rfl, by kernel_rfl⟩
    · exact ⟨(deB64).toArray, 77, by rw [hw]; rfl, by kernel_rfl⟩
    · exact ⟨(tens).toArray, 69, by rw [hw]; rfl, by kernel_rfl⟩
end Go.Proofs.YtgnmaekfiifepaaDoor
