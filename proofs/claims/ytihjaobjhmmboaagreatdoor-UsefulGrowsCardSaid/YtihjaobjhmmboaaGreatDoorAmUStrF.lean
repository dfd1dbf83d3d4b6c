/- A part of a proof. Its conditions: none. -/
import Derived.Test.YtihjaobjhmmboaaGreatDoorAmUText
import Derived.Test.YtihjaobjhmmboaaGreatDoorAmC
set_option linter.all false
namespace Go.Proofs.YtihjaobjhmmboaaGreatDoor
open Go.AM
set_option maxRecDepth 100000
theorem ust : Tryz.prog.underlying 9 = some .string := by kernel_rfl
theorem c1n : ((1 : Nat) : Int) = 1 := rfl
theorem ba45 : (⟨#[45]⟩ : ByteArray) = BA [45] := rfl
theorem ba46 : (⟨#[46]⟩ : ByteArray) = BA [46] := rfl
theorem ba48 : (⟨#[48]⟩ : ByteArray) = BA [48] := rfl
theorem ba49 : (⟨#[49]⟩ : ByteArray) = BA [49] := rfl
theorem ba0 : (⟨#[]⟩ : ByteArray) = BA [] := rfl
theorem ban : (⟨#[110, 97, 110]⟩ : ByteArray) = BA [110, 97, 110] := rfl
theorem bai : (⟨#[105, 110, 102]⟩ : ByteArray) = BA [105, 110, 102] := rfl
theorem bam : (⟨#[45, 105, 110, 102]⟩ : ByteArray) = BA [45, 105, 110, 102] := rfl
theorem BAS : type_of% (And.intro (And.intro ba45 (And.intro ba46 ba48)) (And.intro (And.intro ba49 (And.intro ba0 ban)) (And.intro bai bam))) := And.intro (And.intro ba45 (And.intro ba46 ba48)) (And.intro (And.intro ba49 (And.intro ba0 ban)) (And.intro bai bam))
def hasMinus (l : List UInt8) : Bool := l.head? == some 45
set_option maxHeartbeats 1000000 in
theorem hasprefc_gives (c : UInt8) (l : List UInt8) (n : Nat) (H : Heap) : Gives Tryz.prog 112 [.string (BA l), .string (BA [c])] n H fun v n' H' => v = .bool (l.head? == some c) ∧ n' = n ∧ H' = H := by
 refine Gives.of orders ok112 (Nat.le_of_ble_eq_true rfl) ?_
 cases l with
 | nil =>
  have z : ((1 : Int) ≤ ((0 : Nat) : Int)) = False := by simp
  repeat (first | apply WK.seq | apply WK.block | apply WK.skipSeq | apply WK.skipBlock | apply WK.retSeq | apply WK.retBlock | apply WK.exitSeq | apply WK.exitHere | refine WK.exitOn rfl ?_ | ((first | (refine WK.rgn ?_ ?_; kernel_rfl) | refine AtCall.now ?_); simp (config := { maxSteps := 1000000 }) only [SS, forall_const, wx, tguard, acallee, top, tval, fput, tor, vsh, vbin, tlen2, tlen3, tpick, tsl, tsl2, tsl3, tsl4, tsl5, Go.AM.bound, Int.reduceEq, Int.reduceNeg, Nat.reduceGT, Nat.reduceLT, Nat.reduceLeDiff, Nat.reduceEqDiff, ↓reduceIte, reduceCtorEq, Int.reduceToNat, Int.reduceLE, Int.reduceLT, Nat.reduceAdd, Nat.reduceMul, BAS, ba_size, ba_list, ba_ext, aop_ssl, tss, tss2, sbnd, ust, z, ff_112]) | (refine WK.condT ?_ ?_; focus (simp only [ev_tmp, ev_const, fset_apply, Nat.reduceEqDiff, ↓reduceIte, decide_true, decide_false, BAS, ba_size, ba_list, ba_ext, aop_ssl, tss, tss2, sbnd, ust, z, ff_112]; done)) | (refine WK.condF ?_ ?_; focus (simp only [ev_tmp, ev_const, fset_apply, Nat.reduceEqDiff, ↓reduceIte, decide_true, decide_false, BAS, ba_size, ba_list, ba_ext, aop_ssl, tss, tss2, sbnd, ust, z, ff_112]; done)))
  (first | refine WK.retNil ⟨Or.inr rfl, _, rfl, ?_, ?_⟩ | refine WK.skipNil ⟨Or.inl rfl, _, rfl, ?_, ?_⟩)
  ·exact fun _ _ => rfl
  ·simp only [packed, fset_apply, Nat.reduceEqDiff, ↓reduceIte, List.getD_cons_zero, List.getD_cons_succ, ff_112]
   exact ⟨rfl, trivial, trivial⟩
 | cons a l =>
  have z : ((1 : Int) ≤ ((l.length + 1 : Nat) : Int)) = True := by simp only [eq_iff_iff, iff_true]; omega
  have z2 : 1 ≤ l.length + 1 := by omega
  repeat (first | apply WK.seq | apply WK.block | apply WK.skipSeq | apply WK.skipBlock | apply WK.retSeq | apply WK.retBlock | apply WK.exitSeq | apply WK.exitHere | refine WK.exitOn rfl ?_ | ((first | (refine WK.rgn ?_ ?_; kernel_rfl) | refine AtCall.now ?_); simp (config := { maxSteps := 1000000 }) only [SS, forall_const, wx, tguard, acallee, top, tval, fput, tor, vsh, vbin, tlen2, tlen3, tpick, tsl, tsl2, tsl3, tsl4, tsl5, Go.AM.bound, Int.reduceEq, Int.reduceNeg, Nat.reduceGT, Nat.reduceLT, Nat.reduceLeDiff, Nat.reduceEqDiff, ↓reduceIte, reduceCtorEq, Int.reduceToNat, Int.reduceLE, Int.reduceLT, Nat.reduceAdd, Nat.reduceMul, BAS, ba_size, ba_list, ba_ext, aop_ssl, tss, tss2, sbnd, ust, z, z2, ff_112]) | (refine WK.condT ?_ ?_; focus (simp only [ev_tmp, ev_const, fset_apply, Nat.reduceEqDiff, ↓reduceIte, decide_true, decide_false, BAS, ba_size, ba_list, ba_ext, aop_ssl, tss, tss2, sbnd, ust, z, z2, ff_112]; done)) | (refine WK.condF ?_ ?_; focus (simp only [ev_tmp, ev_const, fset_apply, Nat.reduceEqDiff, ↓reduceIte, decide_true, decide_false, BAS, ba_size, ba_list, ba_ext, aop_ssl, tss, tss2, sbnd, ust, z, z2, ff_112]; done)))
  (first | refine WK.retNil ⟨Or.inr rfl, _, rfl, ?_, ?_⟩ | refine WK.skipNil ⟨Or.inl rfl, _, rfl, ?_, ?_⟩)
  ·exact fun _ _ => rfl
  ·simp only [packed, fset_apply, Nat.reduceEqDiff, ↓reduceIte, List.getD_cons_zero, List.getD_cons_succ, ff_112]
   refine ⟨?_, trivial, trivial⟩
   simp
theorem hasprefix_gives (l : List UInt8) (n : Nat) (H : Heap) : Gives Tryz.prog 112 [.string (BA l), .string (BA [45])] n H fun v n' H' => v = .bool (hasMinus l) ∧ n' = n ∧ H' = H := hasprefc_gives 45 l n H
theorem hasprefd_gives (c : UInt8) (l : List UInt8) (n : Nat) (H : Heap) : Gives Tryz.prog 106 [.string (BA l), .string (BA [c])] n H fun v n' H' => v = .bool (l.head? == some c) ∧ n' = n ∧ H' = H := by
 refine Gives.of orders ok106 (Nat.le_of_ble_eq_true rfl) ?_
 repeat (first | apply WK.seq | apply WK.block | apply WK.skipSeq | apply WK.skipBlock | apply WK.retSeq | apply WK.retBlock | apply WK.exitSeq | apply WK.exitHere | refine WK.exitOn rfl ?_ | ((first | (refine WK.rgn ?_ ?_; kernel_rfl) | refine AtCall.now ?_); simp (config := { maxSteps := 1000000 }) only [SS, qx24, forall_const, Int.reduceEq, Int.reduceNeg, Nat.reduceGT, Nat.reduceLT, Nat.reduceLeDiff, Nat.reduceEqDiff, ↓reduceIte, reduceCtorEq, Int.reduceToNat, Int.reduceLE, Int.reduceLT, Nat.reduceAdd, Nat.reduceMul, BAS]) | (refine WK.condT ?_ ?_; focus (simp only [ev_tmp, ev_const, fset_apply, Nat.reduceEqDiff, ↓reduceIte, decide_true, decide_false, BAS]; done)) | (refine WK.condF ?_ ?_; focus (simp only [ev_tmp, ev_const, fset_apply, Nat.reduceEqDiff, ↓reduceIte, decide_true, decide_false, BAS]; done)))
 refine AtCall.by (hasprefc_gives c l _ _) ?_
 rintro v n' H' hk ⟨rfl, rfl, rfl⟩
 simp (config := { maxSteps := 1000000 }) only [SS, qx24, forall_const, Int.reduceEq, Int.reduceNeg, Nat.reduceGT, Nat.reduceLT, Nat.reduceLeDiff, Nat.reduceEqDiff, ↓reduceIte, reduceCtorEq, Int.reduceToNat, Int.reduceLE, Int.reduceLT, Nat.reduceAdd, Nat.reduceMul]
 repeat (first | apply WK.seq | apply WK.block | apply WK.skipSeq | apply WK.skipBlock | apply WK.retSeq | apply WK.retBlock | apply WK.exitSeq | apply WK.exitHere | refine WK.exitOn rfl ?_ | ((first | (refine WK.rgn ?_ ?_; kernel_rfl) | refine AtCall.now ?_); simp (config := { maxSteps := 1000000 }) only [SS, qx24, forall_const, Int.reduceEq, Int.reduceNeg, Nat.reduceGT, Nat.reduceLT, Nat.reduceLeDiff, Nat.reduceEqDiff, ↓reduceIte, reduceCtorEq, Int.reduceToNat, Int.reduceLE, Int.reduceLT, Nat.reduceAdd, Nat.reduceMul]) | (refine WK.condT ?_ ?_; focus (simp only [ev_tmp, ev_const, fset_apply, Nat.reduceEqDiff, ↓reduceIte, decide_true, decide_false]; done)) | (refine WK.condF ?_ ?_; focus (simp only [ev_tmp, ev_const, fset_apply, Nat.reduceEqDiff, ↓reduceIte, decide_true, decide_false]; done)))
 (first | refine WK.retNil ⟨Or.inr rfl, _, rfl, ?_, ?_⟩ | refine WK.skipNil ⟨Or.inl rfl, _, rfl, ?_, ?_⟩)
 ·exact fun _ _ => rfl
 ·simp only [packed, fset_apply, Nat.reduceEqDiff, ↓reduceIte, List.getD_cons_zero, List.getD_cons_succ]
  exact ⟨trivial, trivial, trivial⟩
def cutM (l : List UInt8) : List UInt8 := if hasMinus l then l.tail else l
set_option maxHeartbeats 1000000 in
theorem cutprefix0_gives (l : List UInt8) (n : Nat) (H : Heap) : Gives Tryz.prog 103 [.string (BA l), .string (BA [45])] n H fun v n' H' => v = .tuple #[.string (BA (cutM l)), .bool (hasMinus l)] ∧ n' = n ∧ H' = H := by
 refine Gives.of orders ok103 (Nat.le_of_ble_eq_true rfl) ?_
 repeat (first | apply WK.seq | apply WK.block | apply WK.skipSeq | apply WK.skipBlock | apply WK.retSeq | apply WK.retBlock | apply WK.exitSeq | apply WK.exitHere | refine WK.exitOn rfl ?_ | ((first | (refine WK.rgn ?_ ?_; kernel_rfl) | refine AtCall.now ?_); simp (config := { maxSteps := 1000000 }) only [SS, qx30, forall_const, vun, Int.reduceEq, Int.reduceNeg, Nat.reduceGT, Nat.reduceLT, Nat.reduceLeDiff, Nat.reduceEqDiff, ↓reduceIte, reduceCtorEq, Int.reduceToNat, Int.reduceLE, Int.reduceLT, Nat.reduceAdd, Nat.reduceMul, BAS, ff_103]) | (refine WK.condT ?_ ?_; focus (simp only [ev_tmp, ev_const, fset_apply, Nat.reduceEqDiff, ↓reduceIte, decide_true, decide_false, BAS, ff_103]; done)) | (refine WK.condF ?_ ?_; focus (simp only [ev_tmp, ev_const, fset_apply, Nat.reduceEqDiff, ↓reduceIte, decide_true, decide_false, BAS, ff_103]; done)))
 refine AtCall.by (hasprefix_gives l _ _) ?_
 rintro v n' H' hk ⟨rfl, rfl, rfl⟩
 unfold cutM
 cases hm : hasMinus l
 ·simp (config := { maxSteps := 1000000 }) only [SS, qx30, forall_const, vun, Int.reduceEq, Int.reduceNeg, Nat.reduceGT, Nat.reduceLT, Nat.reduceLeDiff, Nat.reduceEqDiff, ↓reduceIte, reduceCtorEq, Int.reduceToNat, Int.reduceLE, Int.reduceLT, Nat.reduceAdd, Nat.reduceMul, hm, ff_103]
  repeat (first | apply WK.seq | apply WK.block | apply WK.skipSeq | apply WK.skipBlock | apply WK.retSeq | apply WK.retBlock | apply WK.exitSeq | apply WK.exitHere | refine WK.exitOn rfl ?_ | ((first | (refine WK.rgn ?_ ?_; kernel_rfl) | refine AtCall.now ?_); simp (config := { maxSteps := 1000000 }) only [SS, qx30, forall_const, vun, Int.reduceEq, Int.reduceNeg, Nat.reduceGT, Nat.reduceLT, Nat.reduceLeDiff, Nat.reduceEqDiff, ↓reduceIte, reduceCtorEq, Int.reduceToNat, Int.reduceLE, Int.reduceLT, Nat.reduceAdd, Nat.reduceMul, hm, ff_103]) | (refine WK.condT ?_ ?_; focus (simp only [ev_tmp, ev_const, fset_apply, Nat.reduceEqDiff, ↓reduceIte, decide_true, decide_false, hm, ff_103]; done)) | (refine WK.condF ?_ ?_; focus (simp only [ev_tmp, ev_const, fset_apply, Nat.reduceEqDiff, ↓reduceIte, decide_true, decide_false, hm, ff_103]; done)))
  (first | refine WK.retNil ⟨Or.inr rfl, _, rfl, ?_, ?_⟩ | refine WK.skipNil ⟨Or.inl rfl, _, rfl, ?_, ?_⟩)
  ·exact fun _ _ => rfl
  ·simp only [packed, fset_apply, Nat.reduceEqDiff, ↓reduceIte, List.getD_cons_zero, List.getD_cons_succ, hm, ff_103]
   simp
 ·cases l with
  | nil => simp [hasMinus] at hm
  | cons a l =>
   have z2 : 1 ≤ l.length + 1 := by omega
   simp (config := { maxSteps := 1000000 }) only [SS, qx30, forall_const, vun, Int.reduceEq, Int.reduceNeg, Nat.reduceGT, Nat.reduceLT, Nat.reduceLeDiff, Nat.reduceEqDiff, ↓reduceIte, reduceCtorEq, Int.reduceToNat, Int.reduceLE, Int.reduceLT, Nat.reduceAdd, Nat.reduceMul, hm, ff_103]
   repeat (first | apply WK.seq | apply WK.block | apply WK.skipSeq | apply WK.skipBlock | apply WK.retSeq | apply WK.retBlock | apply WK.exitSeq | apply WK.exitHere | refine WK.exitOn rfl ?_ | ((first | (refine WK.rgn ?_ ?_; kernel_rfl) | refine AtCall.now ?_); simp (config := { maxSteps := 1000000 }) only [SS, qx30, forall_const, vun, Int.reduceEq, Int.reduceNeg, Nat.reduceGT, Nat.reduceLT, Nat.reduceLeDiff, Nat.reduceEqDiff, ↓reduceIte, reduceCtorEq, Int.reduceToNat, Int.reduceLE, Int.reduceLT, Nat.reduceAdd, Nat.reduceMul, BAS, ba_size, ba_list, ba_ext, aop_ssl, tss, tss2, sbnd, ust, hm, z2, ff_103]) | (refine WK.condT ?_ ?_; focus (simp only [ev_tmp, ev_const, fset_apply, Nat.reduceEqDiff, ↓reduceIte, decide_true, decide_false, BAS, ba_size, ba_list, ba_ext, aop_ssl, tss, tss2, sbnd, ust, hm, z2, ff_103]; done)) | (refine WK.condF ?_ ?_; focus (simp only [ev_tmp, ev_const, fset_apply, Nat.reduceEqDiff, ↓reduceIte, decide_true, decide_false, BAS, ba_size, ba_list, ba_ext, aop_ssl, tss, tss2, sbnd, ust, hm, z2, ff_103]; done)))
   (first | refine WK.retNil ⟨Or.inr rfl, _, rfl, ?_, ?_⟩ | refine WK.skipNil ⟨Or.inl rfl, _, rfl, ?_, ?_⟩)
   ·exact fun _ _ => rfl
   ·simp only [packed, fset_apply, Nat.reduceEqDiff, ↓reduceIte, List.getD_cons_zero, List.getD_cons_succ, hm, ff_103]
    simp
theorem cutprefix_gives (l : List UInt8) (n : Nat) (H : Heap) : Gives Tryz.prog 90 [.string (BA l), .string (BA [45])] n H fun v n' H' => v = .tuple #[.string (BA (cutM l)), .bool (hasMinus l)] ∧ n' = n ∧ H' = H := by
 refine Gives.of orders ok90 (Nat.le_of_ble_eq_true rfl) ?_
 repeat (first | apply WK.seq | apply WK.block | apply WK.skipSeq | apply WK.skipBlock | apply WK.retSeq | apply WK.retBlock | apply WK.exitSeq | apply WK.exitHere | refine WK.exitOn rfl ?_ | ((first | (refine WK.rgn ?_ ?_; kernel_rfl) | refine AtCall.now ?_); simp (config := { maxSteps := 1000000 }) only [SS, qx29, forall_const, Int.reduceEq, Int.reduceNeg, Nat.reduceGT, Nat.reduceLT, Nat.reduceLeDiff, Nat.reduceEqDiff, ↓reduceIte, reduceCtorEq, Int.reduceToNat, Int.reduceLE, Int.reduceLT, Nat.reduceAdd, Nat.reduceMul, BAS]) | (refine WK.condT ?_ ?_; focus (simp only [ev_tmp, ev_const, fset_apply, Nat.reduceEqDiff, ↓reduceIte, decide_true, decide_false, BAS]; done)) | (refine WK.condF ?_ ?_; focus (simp only [ev_tmp, ev_const, fset_apply, Nat.reduceEqDiff, ↓reduceIte, decide_true, decide_false, BAS]; done)))
 refine AtCall.by (cutprefix0_gives l _ _) ?_
 rintro v n' H' hk ⟨rfl, rfl, rfl⟩
 simp (config := { maxSteps := 1000000 }) only [SS, qx29, forall_const, Int.reduceEq, Int.reduceNeg, Nat.reduceGT, Nat.reduceLT, Nat.reduceLeDiff, Nat.reduceEqDiff, ↓reduceIte, reduceCtorEq, Int.reduceToNat, Int.reduceLE, Int.reduceLT, Nat.reduceAdd, Nat.reduceMul]
 repeat (first | apply WK.seq | apply WK.block | apply WK.skipSeq | apply WK.skipBlock | apply WK.retSeq | apply WK.retBlock | apply WK.exitSeq | apply WK.exitHere | refine WK.exitOn rfl ?_ | ((first | (refine WK.rgn ?_ ?_; kernel_rfl) | refine AtCall.now ?_); simp (config := { maxSteps := 1000000 }) only [SS, qx29, forall_const, Int.reduceEq, Int.reduceNeg, Nat.reduceGT, Nat.reduceLT, Nat.reduceLeDiff, Nat.reduceEqDiff, ↓reduceIte, reduceCtorEq, Int.reduceToNat, Int.reduceLE, Int.reduceLT, Nat.reduceAdd, Nat.reduceMul]) | (refine WK.condT ?_ ?_; focus (simp only [ev_tmp, ev_const, fset_apply, Nat.reduceEqDiff, ↓reduceIte, decide_true, decide_false]; done)) | (refine WK.condF ?_ ?_; focus (simp only [ev_tmp, ev_const, fset_apply, Nat.reduceEqDiff, ↓reduceIte, decide_true, decide_false]; done)))
 (first | refine WK.retNil ⟨Or.inr rfl, _, rfl, ?_, ?_⟩ | refine WK.skipNil ⟨Or.inl rfl, _, rfl, ?_, ?_⟩)
 ·exact fun _ _ => rfl
 ·simp only [packed, fset_apply, Nat.reduceEqDiff, ↓reduceIte, List.getD_cons_zero, List.getD_cons_succ]
  exact ⟨trivial, trivial, trivial⟩
theorem ext_idx (s : ByteArray) (c : Int) : aext Tryz.prog 158 [.string s, .int .u8 c] = some (.int .i64 (indexB s c)) := by
 have h : (match Tryz.prog.funcs[158]? with | some fn => fn.body.isNone && fn.origin == "" && fn.name == "internal/bytealg.IndexByteString" | none => false) = true := by kernel_rfl
 unfold aext
 cases hf : Tryz.prog.funcs[158]? with
 | none => rw [hf] at h; cases h
 | some fn =>
  rw [hf] at h
  simp at h
  simp [hf, h]
def headL (l : List UInt8) : List UInt8 := l.takeWhile (· != 46)
def tailL (l : List UInt8) : List UInt8 := (l.dropWhile (· != 46)).tail
def hasDot (l : List UInt8) : Bool := l.contains 46
def dotIdx (l : List UInt8) : Int := if hasDot l then ((headL l).length : Int) else -1
theorem head_spec (l : List UInt8) (h : hasDot l = true) : l = headL l ++ 46 :: tailL l := by
  induction l with
  | nil => simp [hasDot] at h
  | cons a l ih =>
    unfold headL tailL
    by_cases ha : a = 46
    · subst ha; simp
    · have hl : hasDot l = true := by
        unfold hasDot at h ⊢
        simp at h ⊢
        rcases h with h | h
        · exact absurd h.symm ha
        · exact h
      have := ih hl
      simp [ha]
      unfold headL tailL at this
      simpa using this
theorem head_none (l : List UInt8) : ∀ x ∈ headL l, x ≠ 46 := by
 intro x hx
 unfold headL at hx
 induction l with
 | nil => simp at hx
 | cons a l ih =>
  by_cases ha : a = 46
  ·subst ha; simp at hx
  ·simp only [List.takeWhile_cons, show (a != 46) = true by simpa using ha, if_true, List.mem_cons] at hx
   rcases hx with rfl | hx
   ·exact ha
   ·exact ih hx
theorem head_all (l : List UInt8) (h : hasDot l = false) : headL l = l ∧ tailL l = [] := by
 induction l with
 | nil => exact ⟨rfl, rfl⟩
 | cons a l ih =>
  unfold hasDot at h
  simp at h
  have hl : hasDot l = false := by unfold hasDot; simpa using h.2
  obtain ⟨h1, h2⟩ := ih hl
  unfold headL tailL at *
  have ha : (a != 46) = true := by simp; exact fun e => h.1 e.symm
  simp only [List.takeWhile_cons, List.dropWhile_cons, ha, if_true, h1, h2]
  exact ⟨trivial, trivial⟩
theorem indexB_eq (l : List UInt8) : indexB (BA l) 46 = dotIdx l := by
 have hg : ∀ i, i < l.length → (BA l)[i]! = l[i]! := by
  intro i hi
  rw [getElem!_pos (BA l) i (by rw [ba_size]; exact hi), getElem!_pos l i hi]; rfl
 unfold indexB dotIdx
 rw [ba_size]
 cases h : hasDot l with
 | true =>
  have hs := head_spec l h
  have hlen : (headL l).length < l.length := by
   have := congrArg List.length hs
   simp only [List.length_append, List.length_cons] at this
   omega
  have : (List.range l.length).find? (fun i => (BA l)[i]! == UInt8.ofNat (46 : Int).toNat) = some (headL l).length := by
   rw [List.find?_range_eq_some]
   refine ⟨?_, List.mem_range.2 hlen, ?_⟩
   ·rw [hg _ hlen, getElem!_pos l _ hlen]
    have : l[(headL l).length]? = some 46 := by
     have h2 : (headL l ++ 46 :: tailL l)[(headL l).length]? = some 46 := by simp
     rwa [← hs] at h2
    rw [List.getElem?_eq_getElem hlen] at this
    rw [Option.some.inj this]; rfl
   ·intro j hj
    rw [hg _ (by omega), getElem!_pos l _ (by omega)]
    have h1 : l[j]? = (headL l)[j]? := by
     have h2 : (headL l ++ 46 :: tailL l)[j]? = (headL l)[j]? := List.getElem?_append_left hj
     rwa [← hs] at h2
    rw [List.getElem?_eq_getElem (by omega), List.getElem?_eq_getElem hj] at h1
    rw [Option.some.inj h1]
    have := head_none l _ (List.getElem_mem hj)
    simp
    exact this
  rw [this]; rfl
 | false =>
  have : (List.range l.length).find? (fun i => (BA l)[i]! == UInt8.ofNat (46 : Int).toNat) = none := by
   rw [List.find?_range_eq_none]
   intro i hi
   rw [hg _ hi, getElem!_pos l _ hi]
   unfold hasDot at h
   simp at h
   simp
   intro e
   exact h (e ▸ List.getElem_mem hi)
  rw [this]; rfl
theorem index0_gives (l : List UInt8) (n : Nat) (H : Heap) : Gives Tryz.prog 132 [.string (BA l), .int .u8 46] n H fun v n' H' => v = .int .i64 (dotIdx l) ∧ n' = n ∧ H' = H := by
 refine Gives.of orders ok132 (Nat.le_of_ble_eq_true rfl) ?_
 repeat (first | apply WK.seq | apply WK.block | apply WK.skipSeq | apply WK.skipBlock | apply WK.retSeq | apply WK.retBlock | apply WK.exitSeq | apply WK.exitHere | refine WK.exitOn rfl ?_ | ((first | (refine WK.rgn ?_ ?_; kernel_rfl) | refine AtCall.now ?_); simp (config := { maxSteps := 1000000 }) only [SS, qx24, forall_const, Int.reduceEq, Int.reduceNeg, Nat.reduceGT, Nat.reduceLT, Nat.reduceLeDiff, Nat.reduceEqDiff, ↓reduceIte, reduceCtorEq, Int.reduceToNat, Int.reduceLE, Int.reduceLT, Nat.reduceAdd, Nat.reduceMul, ext_idx, indexB_eq]) | (refine WK.condT ?_ ?_; focus (simp only [ev_tmp, ev_const, fset_apply, Nat.reduceEqDiff, ↓reduceIte, decide_true, decide_false, ext_idx, indexB_eq]; done)) | (refine WK.condF ?_ ?_; focus (simp only [ev_tmp, ev_const, fset_apply, Nat.reduceEqDiff, ↓reduceIte, decide_true, decide_false, ext_idx, indexB_eq]; done)))
 (first | refine WK.retNil ⟨Or.inr rfl, _, rfl, ?_, ?_⟩ | refine WK.skipNil ⟨Or.inl rfl, _, rfl, ?_, ?_⟩)
 ·exact fun _ _ => rfl
 ·simp only [packed, fset_apply, Nat.reduceEqDiff, ↓reduceIte, List.getD_cons_zero, List.getD_cons_succ]
  exact ⟨trivial, trivial, trivial⟩
set_option maxHeartbeats 1000000 in
theorem index_gives (l : List UInt8) (n : Nat) (H : Heap) : Gives Tryz.prog 113 [.string (BA l), .string (BA [46])] n H fun v n' H' => v = .int .i64 (dotIdx l) ∧ n' = n ∧ H' = H := by
 refine Gives.of orders ok113 (Nat.le_of_ble_eq_true rfl) ?_
 by_cases hl : l = [46]
 ·subst hl
  have z : (([46] : List UInt8) == [46]) = true := rfl
  have z1 : ((1 : Int) = 0) = False := by simp
  repeat (first | apply WK.seq | apply WK.block | apply WK.skipSeq | apply WK.skipBlock | apply WK.retSeq | apply WK.retBlock | apply WK.exitSeq | apply WK.exitHere | refine WK.exitOn rfl ?_ | ((first | (refine WK.rgn ?_ ?_; kernel_rfl) | refine AtCall.now ?_); simp (config := { maxSteps := 1000000 }) only [SS, qx33, forall_const, Int.reduceEq, Int.reduceNeg, Nat.reduceGT, Nat.reduceLT, Nat.reduceLeDiff, Nat.reduceEqDiff, ↓reduceIte, reduceCtorEq, Int.reduceToNat, Int.reduceLE, Int.reduceLT, Nat.reduceAdd, Nat.reduceMul, BAS, ba_size, ba_list, ba_get, ust, c1n, z, z1, ff_113]) | (refine WK.condT ?_ ?_; focus (simp only [ev_tmp, ev_const, fset_apply, Nat.reduceEqDiff, ↓reduceIte, decide_true, decide_false, BAS, ba_size, ba_list, ba_get, ust, c1n, z, z1, ff_113]; done)) | (refine WK.condF ?_ ?_; focus (simp only [ev_tmp, ev_const, fset_apply, Nat.reduceEqDiff, ↓reduceIte, decide_true, decide_false, BAS, ba_size, ba_list, ba_get, ust, c1n, z, z1, ff_113]; done)))
  (first | refine WK.retNil ⟨Or.inr rfl, _, rfl, ?_, ?_⟩ | refine WK.skipNil ⟨Or.inl rfl, _, rfl, ?_, ?_⟩)
  ·exact fun _ _ => rfl
  ·simp only [packed, fset_apply, Nat.reduceEqDiff, ↓reduceIte, List.getD_cons_zero, List.getD_cons_succ, ff_113]
   exact ⟨rfl, trivial, trivial⟩
 ·have z : (([46] : List UInt8) == l) = false := by simpa using fun e => hl e.symm
  have z1 : ((1 : Int) = 0) = False := by simp
  have z2 : (UInt8.toNat 46 : Int) = 46 := rfl
  repeat (first | apply WK.seq | apply WK.block | apply WK.skipSeq | apply WK.skipBlock | apply WK.retSeq | apply WK.retBlock | apply WK.exitSeq | apply WK.exitHere | refine WK.exitOn rfl ?_ | ((first | (refine WK.rgn ?_ ?_; kernel_rfl) | refine AtCall.now ?_); simp (config := { maxSteps := 1000000 }) only [SS, qx33, forall_const, Int.reduceEq, Int.reduceNeg, Nat.reduceGT, Nat.reduceLT, Nat.reduceLeDiff, Nat.reduceEqDiff, ↓reduceIte, reduceCtorEq, Int.reduceToNat, Int.reduceLE, Int.reduceLT, Nat.reduceAdd, Nat.reduceMul, BAS, ba_size, ba_list, ba_get, ust, c1n, z, z1, z2, ff_113]) | (refine WK.condT ?_ ?_; focus (simp only [ev_tmp, ev_const, fset_apply, Nat.reduceEqDiff, ↓reduceIte, decide_true, decide_false, BAS, ba_size, ba_list, ba_get, ust, c1n, z, z1, z2, ff_113]; done)) | (refine WK.condF ?_ ?_; focus (simp only [ev_tmp, ev_const, fset_apply, Nat.reduceEqDiff, ↓reduceIte, decide_true, decide_false, BAS, ba_size, ba_list, ba_get, ust, c1n, z, z1, z2, ff_113]; done)))
  refine AtCall.by (index0_gives l _ _) ?_
  rintro v n' H' hk ⟨rfl, rfl, rfl⟩
  simp (config := { maxSteps := 1000000 }) only [SS, qx33, forall_const, Int.reduceEq, Int.reduceNeg, Nat.reduceGT, Nat.reduceLT, Nat.reduceLeDiff, Nat.reduceEqDiff, ↓reduceIte, reduceCtorEq, Int.reduceToNat, Int.reduceLE, Int.reduceLT, Nat.reduceAdd, Nat.reduceMul, ff_113]
  repeat (first | apply WK.seq | apply WK.block | apply WK.skipSeq | apply WK.skipBlock | apply WK.retSeq | apply WK.retBlock | apply WK.exitSeq | apply WK.exitHere | refine WK.exitOn rfl ?_ | ((first | (refine WK.rgn ?_ ?_; kernel_rfl) | refine AtCall.now ?_); simp (config := { maxSteps := 1000000 }) only [SS, qx33, forall_const, Int.reduceEq, Int.reduceNeg, Nat.reduceGT, Nat.reduceLT, Nat.reduceLeDiff, Nat.reduceEqDiff, ↓reduceIte, reduceCtorEq, Int.reduceToNat, Int.reduceLE, Int.reduceLT, Nat.reduceAdd, Nat.reduceMul, ff_113]) | (refine WK.condT ?_ ?_; focus (simp only [ev_tmp, ev_const, fset_apply, Nat.reduceEqDiff, ↓reduceIte, decide_true, decide_false, ff_113]; done)) | (refine WK.condF ?_ ?_; focus (simp only [ev_tmp, ev_const, fset_apply, Nat.reduceEqDiff, ↓reduceIte, decide_true, decide_false, ff_113]; done)))
  (first | refine WK.retNil ⟨Or.inr rfl, _, rfl, ?_, ?_⟩ | refine WK.skipNil ⟨Or.inl rfl, _, rfl, ?_, ?_⟩)
  ·exact fun _ _ => rfl
  ·simp only [packed, fset_apply, Nat.reduceEqDiff, ↓reduceIte, List.getD_cons_zero, List.getD_cons_succ, ff_113]
   exact ⟨trivial, trivial, trivial⟩
set_option maxHeartbeats 1000000 in
theorem cut0_gives (l : List UInt8) (hl : l.length ≤ 1000) (n : Nat) (H : Heap) : Gives Tryz.prog 104 [.string (BA l), .string (BA [46])] n H fun v n' H' => v = .tuple #[.string (BA (headL l)), .string (BA (tailL l)), .bool (hasDot l)] ∧ n' = n ∧ H' = H := by
 refine Gives.of orders ok104 (Nat.le_of_ble_eq_true rfl) ?_
 repeat (first | apply WK.seq | apply WK.block | apply WK.skipSeq | apply WK.skipBlock | apply WK.retSeq | apply WK.retBlock | apply WK.exitSeq | apply WK.exitHere | refine WK.exitOn rfl ?_ | ((first | (refine WK.rgn ?_ ?_; kernel_rfl) | refine AtCall.now ?_); simp (config := { maxSteps := 1000000 }) only [SS, qx31, forall_const, Int.reduceEq, Int.reduceNeg, Nat.reduceGT, Nat.reduceLT, Nat.reduceLeDiff, Nat.reduceEqDiff, ↓reduceIte, reduceCtorEq, Int.reduceToNat, Int.reduceLE, Int.reduceLT, Nat.reduceAdd, Nat.reduceMul, BAS, ff_104]) | (refine WK.condT ?_ ?_; focus (simp only [ev_tmp, ev_const, fset_apply, Nat.reduceEqDiff, ↓reduceIte, decide_true, decide_false, BAS, ff_104]; done)) | (refine WK.condF ?_ ?_; focus (simp only [ev_tmp, ev_const, fset_apply, Nat.reduceEqDiff, ↓reduceIte, decide_true, decide_false, BAS, ff_104]; done)))
 refine AtCall.by (index_gives l _ _) ?_
 rintro v n' H' hk ⟨rfl, rfl, rfl⟩
 cases hd : hasDot l with
 | false =>
  have e : dotIdx l = -1 := by unfold dotIdx; rw [hd]; rfl
  have z : ((0 : Int) ≤ -1) = False := by simp
  obtain ⟨h1, h2⟩ := head_all l hd
  rw [h1, h2]
  simp (config := { maxSteps := 1000000 }) only [SS, qx31, forall_const, Int.reduceEq, Int.reduceNeg, Nat.reduceGT, Nat.reduceLT, Nat.reduceLeDiff, Nat.reduceEqDiff, ↓reduceIte, reduceCtorEq, Int.reduceToNat, Int.reduceLE, Int.reduceLT, Nat.reduceAdd, Nat.reduceMul, e, z, ff_104]
  repeat (first | apply WK.seq | apply WK.block | apply WK.skipSeq | apply WK.skipBlock | apply WK.retSeq | apply WK.retBlock | apply WK.exitSeq | apply WK.exitHere | refine WK.exitOn rfl ?_ | ((first | (refine WK.rgn ?_ ?_; kernel_rfl) | refine AtCall.now ?_); simp (config := { maxSteps := 1000000 }) only [SS, qx31, forall_const, Int.reduceEq, Int.reduceNeg, Nat.reduceGT, Nat.reduceLT, Nat.reduceLeDiff, Nat.reduceEqDiff, ↓reduceIte, reduceCtorEq, Int.reduceToNat, Int.reduceLE, Int.reduceLT, Nat.reduceAdd, Nat.reduceMul, e, z, BAS, ff_104]) | (refine WK.condT ?_ ?_; focus (simp only [ev_tmp, ev_const, fset_apply, Nat.reduceEqDiff, ↓reduceIte, decide_true, decide_false, e, z, BAS, ff_104]; done)) | (refine WK.condF ?_ ?_; focus (simp only [ev_tmp, ev_const, fset_apply, Nat.reduceEqDiff, ↓reduceIte, decide_true, decide_false, e, z, BAS, ff_104]; done)))
  (first | refine WK.retNil ⟨Or.inr rfl, _, rfl, ?_, ?_⟩ | refine WK.skipNil ⟨Or.inl rfl, _, rfl, ?_, ?_⟩)
  ·exact fun _ _ => rfl
  ·simp only [packed, fset_apply, Nat.reduceEqDiff, ↓reduceIte, List.getD_cons_zero, List.getD_cons_succ, ff_104]
   exact ⟨trivial, trivial, trivial⟩
 | true =>
  have hs := head_spec l hd
  obtain ⟨k, hk⟩ : ∃ k, (headL l).length = k := ⟨_, rfl⟩
  have e : dotIdx l = (k : Int) := by unfold dotIdx; rw [hd, ← hk]; rfl
  have hlen := congrArg List.length hs
  simp only [List.length_append, List.length_cons, hk] at hlen
  have z : ((0 : Int) ≤ (k : Int)) = True := by simp
  have z1 : IntKind.i64.wrap ((k : Int) + 1) = ((k + 1 : Nat) : Int) := by rw [wrap_in (by omega) (by omega)]; simp
  have z2 : k ≤ l.length := by omega
  have z3 : k + 1 ≤ l.length := by omega
  have t1 : (l.take k).drop 0 = headL l := by
   rw [List.drop_zero]
   have : (headL l ++ 46 :: tailL l).take k = headL l := by rw [← hk]; exact List.take_left
   rwa [← hs] at this
  have t2 : (l.take l.length).drop (k + 1) = tailL l := by
   rw [List.take_length]
   have : (headL l ++ 46 :: tailL l).drop (k + 1) = tailL l := by rw [← hk, ← List.drop_drop, List.drop_left]; rfl
   rwa [← hs] at this
  simp (config := { maxSteps := 1000000 }) only [SS, qx31, forall_const, Int.reduceEq, Int.reduceNeg, Nat.reduceGT, Nat.reduceLT, Nat.reduceLeDiff, Nat.reduceEqDiff, ↓reduceIte, reduceCtorEq, Int.reduceToNat, Int.reduceLE, Int.reduceLT, Nat.reduceAdd, Nat.reduceMul, e, z, z1, ff_104]
  repeat (first | apply WK.seq | apply WK.block | apply WK.skipSeq | apply WK.skipBlock | apply WK.retSeq | apply WK.retBlock | apply WK.exitSeq | apply WK.exitHere | refine WK.exitOn rfl ?_ | ((first | (refine WK.rgn ?_ ?_; kernel_rfl) | refine AtCall.now ?_); simp (config := { maxSteps := 1000000 }) only [SS, qx31, forall_const, Int.reduceEq, Int.reduceNeg, Nat.reduceGT, Nat.reduceLT, Nat.reduceLeDiff, Nat.reduceEqDiff, ↓reduceIte, reduceCtorEq, Int.reduceToNat, Int.reduceLE, Int.reduceLT, Nat.reduceAdd, Nat.reduceMul, e, z, c1n, BAS, ba_size, ba_list, ba_ext, aop_ssl, tss, tss2, sbnd, ust, z1, z2, z3, t1, t2, Nat.zero_le, Int.natCast_nonneg, Int.toNat_natCast, ff_104]) | (refine WK.condT ?_ ?_; focus (simp only [ev_tmp, ev_const, fset_apply, Nat.reduceEqDiff, ↓reduceIte, decide_true, decide_false, e, z, c1n, BAS, ba_size, ba_list, ba_ext, aop_ssl, tss, tss2, sbnd, ust, z1, z2, z3, t1, t2, Nat.zero_le, Int.natCast_nonneg, Int.toNat_natCast, ff_104]; done)) | (refine WK.condF ?_ ?_; focus (simp only [ev_tmp, ev_const, fset_apply, Nat.reduceEqDiff, ↓reduceIte, decide_true, decide_false, e, z, c1n, BAS, ba_size, ba_list, ba_ext, aop_ssl, tss, tss2, sbnd, ust, z1, z2, z3, t1, t2, Nat.zero_le, Int.natCast_nonneg, Int.toNat_natCast, ff_104]; done)))
  (first | refine WK.retNil ⟨Or.inr rfl, _, rfl, ?_, ?_⟩ | refine WK.skipNil ⟨Or.inl rfl, _, rfl, ?_, ?_⟩)
  ·exact fun _ _ => rfl
  ·simp only [packed, fset_apply, Nat.reduceEqDiff, ↓reduceIte, List.getD_cons_zero, List.getD_cons_succ, ff_104]
   exact ⟨trivial, trivial, trivial⟩
theorem cut_gives (l : List UInt8) (hl : l.length ≤ 1000) (n : Nat) (H : Heap) : Gives Tryz.prog 91 [.string (BA l), .string (BA [46])] n H fun v n' H' => v = .tuple #[.string (BA (headL l)), .string (BA (tailL l)), .bool (hasDot l)] ∧ n' = n ∧ H' = H := by
 refine Gives.of orders ok91 (Nat.le_of_ble_eq_true rfl) ?_
 repeat (first | apply WK.seq | apply WK.block | apply WK.skipSeq | apply WK.skipBlock | apply WK.retSeq | apply WK.retBlock | apply WK.exitSeq | apply WK.exitHere | refine WK.exitOn rfl ?_ | ((first | (refine WK.rgn ?_ ?_; kernel_rfl) | refine AtCall.now ?_); simp (config := { maxSteps := 1000000 }) only [SS, qx29, forall_const, Int.reduceEq, Int.reduceNeg, Nat.reduceGT, Nat.reduceLT, Nat.reduceLeDiff, Nat.reduceEqDiff, ↓reduceIte, reduceCtorEq, Int.reduceToNat, Int.reduceLE, Int.reduceLT, Nat.reduceAdd, Nat.reduceMul, BAS]) | (refine WK.condT ?_ ?_; focus (simp only [ev_tmp, ev_const, fset_apply, Nat.reduceEqDiff, ↓reduceIte, decide_true, decide_false, BAS]; done)) | (refine WK.condF ?_ ?_; focus (simp only [ev_tmp, ev_const, fset_apply, Nat.reduceEqDiff, ↓reduceIte, decide_true, decide_false, BAS]; done)))
 refine AtCall.by (cut0_gives l hl _ _) ?_
 rintro v n' H' hk ⟨rfl, rfl, rfl⟩
 simp (config := { maxSteps := 1000000 }) only [SS, qx29, forall_const, Int.reduceEq, Int.reduceNeg, Nat.reduceGT, Nat.reduceLT, Nat.reduceLeDiff, Nat.reduceEqDiff, ↓reduceIte, reduceCtorEq, Int.reduceToNat, Int.reduceLE, Int.reduceLT, Nat.reduceAdd, Nat.reduceMul]
 repeat (first | apply WK.seq | apply WK.block | apply WK.skipSeq | apply WK.skipBlock | apply WK.retSeq | apply WK.retBlock | apply WK.exitSeq | apply WK.exitHere | refine WK.exitOn rfl ?_ | ((first | (refine WK.rgn ?_ ?_; kernel_rfl) | refine AtCall.now ?_); simp (config := { maxSteps := 1000000 }) only [SS, qx29, forall_const, Int.reduceEq, Int.reduceNeg, Nat.reduceGT, Nat.reduceLT, Nat.reduceLeDiff, Nat.reduceEqDiff, ↓reduceIte, reduceCtorEq, Int.reduceToNat, Int.reduceLE, Int.reduceLT, Nat.reduceAdd, Nat.reduceMul]) | (refine WK.condT ?_ ?_; focus (simp only [ev_tmp, ev_const, fset_apply, Nat.reduceEqDiff, ↓reduceIte, decide_true, decide_false]; done)) | (refine WK.condF ?_ ?_; focus (simp only [ev_tmp, ev_const, fset_apply, Nat.reduceEqDiff, ↓reduceIte, decide_true, decide_false]; done)))
 (first | refine WK.retNil ⟨Or.inr rfl, _, rfl, ?_, ?_⟩ | refine WK.skipNil ⟨Or.inl rfl, _, rfl, ?_, ?_⟩)
 ·exact fun _ _ => rfl
 ·simp only [packed, fset_apply, Nat.reduceEqDiff, ↓reduceIte, List.getD_cons_zero, List.getD_cons_succ]
  exact ⟨trivial, trivial, trivial⟩
end Go.Proofs.YtihjaobjhmmboaaGreatDoor
