/- A part of a proof. Its conditions: none. -/
import Derived.Test.YtemkglelfeidhaaAmJFoPl2
set_option linter.all false
namespace Go.Proofs.Ytemkglelfeidhaa
open Go.AM Go.AM.Fo Go.RowKit
set_option maxRecDepth 100000
def WL (H : Heap) (N : Nat) (v : Value) (vs : List Fo.Way) : Prop := (vs = [] ∧ v = .slice none 0 0) ∨ ∃ (z : Nat) (qs : List (Option Addr × Fo.Way)), qs.map (·.2) = vs ∧ vs ≠ [] ∧ v = .slice (some ⟨z, 0, none⟩) vs.length vs.length ∧ N ≤ z ∧ H z = .cells (qs.flatMap fun q => wyC q.1 q.2) 82 true ∧ ∀ q ∈ qs, RS (fun c : Nat => Value.int .i64 (c : Int)) H q.1 q.2.2
def wyI (o : Nat) (vs : List Fo.Way) (y n1 : Nat) (H1 : Heap) : Prop := o ≤ y ∧ o < n1 ∧ y < n1 ∧
  ((vs = [] ∧ y = o ∧ H1 o = .cells [.slice none 0 0] 77 true) ∨
   ∃ (qs : List (Option Addr × Fo.Way)), qs.map (·.2) = vs ∧ vs ≠ [] ∧ y ≠ o ∧ H1 o = .cells [.slice (some ⟨y, 0, none⟩) vs.length vs.length] 77 true ∧ H1 y = .cells (qs.flatMap fun q => wyC q.1 q.2) 82 true ∧ ∀ q ∈ qs, RS (fun c : Nat => Value.int .i64 (c : Int)) H1 q.1 q.2.2 ∧ ∀ b, q.1 = some b → b.block < n1 ∧ b.block ≠ o ∧ b.block ≠ y)
theorem wyI.mono {o : Nat} {vs : List Fo.Way} {y n n' : Nat} {H H' : Heap} (h : wyI o vs y n H) (hw : WF n H) (k : Kp n H n' H') : wyI o vs y n' H' := by
  obtain ⟨h1, h2, h3, h4⟩ := h
  have hle := k.le
  refine ⟨h1, by omega, by omega, ?_⟩
  rcases h4 with ⟨e1, e2, e3⟩ | ⟨qs, e1, e2, e3, e4, e5, e6⟩
  · exact .inl ⟨e1, e2, (k.keep o h2).trans e3⟩
  · exact .inr ⟨qs, e1, e2, e3, (k.keep o h2).trans e4, (k.keep y h3).trans e5, fun q hq => ⟨(e6 q hq).1.mono hw k, fun b hb => by obtain ⟨q1, q2, q3⟩ := (e6 q hq).2 b hb; exact ⟨by omega, q2, q3⟩⟩⟩
theorem wys_len (qs : List (Option Addr × Fo.Way)) : (qs.flatMap fun q => wyC q.1 q.2).length = qs.length * 2 := by
  induction qs with
  | nil => rfl
  | cons x l ih => rw [List.flatMap_cons, List.length_append, ih, wy_len, List.length_cons]; omega
theorem visit_take (l : List Fo.Way) : (visit (fun vs => decide (vs.length < 2)) [] l).1 = l.take 2 := by
  cases l with
  | nil => rfl
  | cons a l =>
    cases l with
    | nil => rfl
    | cons b l => rfl
section
variable {fo m n0 N0 : Nat} {pt pv pr pw : Option Addr} {g : Gram} {w : List Int} {ks : List Nd} {rd : Nd → Nat} {H0 : Heap}
set_option maxHeartbeats 16000000 in
theorem first1_doc {N : Nat} {H2 : Heap} :
    DoC N H2 67 [.pointer (some ⟨N, 0, none⟩)] N (wyI N) (fun vs => decide (vs.length < 2)) (fun _ => True) := by
  refine ⟨fun vs y n H n' H' h hw k => h.mono hw k, fun vs y n1 H1 h => ⟨Nat.le_refl _, h.2.1, h.1, h.2.2.1⟩, ?_⟩
  intro vs y n1 H1 yw p hw1 hbase hN hI hok _ hp hpb
  have hvl : vs.length ≤ 1 := by
    rcases hok with h | h
    · have : vs.length < 2 := by simpa using h
      omega
    · rw [h]; simp
  obtain ⟨hoy, hon, hyn, hI⟩ := hI
  refine GivesX.of orders ok67 (Nat.le_of_ble_eq_true rfl) ?_
  have kx := Kp.new n1 H1 (.cells (wyC p yw) 82 true)
  have q1 : ∀ (H : Heap) ob, hset H n1 ob N = H N := fun H ob => hset_ne _ _ _ (by omega)
  have q2 : ∀ (H : Heap) ob, hset H (n1 + 1) ob N = H N := fun H ob => hset_ne _ _ _ (by omega)
  have q3 : ∀ (H : Heap) ob, hset H (n1 + 1 + 1) ob N = H N := fun H ob => hset_ne _ _ _ (by omega)
  have hb1 : (bigN < 1) = False := by simp [bigN]
  have h10 : ((1 : Nat) = 0) = False := by simp
  have spw : AM.splice [Value.int IntKind.i64 (Int.ofNat 0), Value.slice none 0 0] 0 (wyC p yw) = wyC p yw := rfl
  have tw : List.take 2 (wyC p yw) = wyC p yw := rfl
  rcases hI with ⟨rfl, rfl, ho⟩ | ⟨qs, hqv, hne, hyo, ho, hy, hqs⟩
  · repeat (first | apply WK.seq | apply WK.block | apply WK.skipSeq | apply WK.skipBlock | apply WK.retSeq | apply WK.retBlock | apply WK.exitSeq | apply WK.exitHere | refine WK.exitOn rfl ?_ | ((first | (refine WK.rgn ?_ ?_; kernel_rfl) | refine AtCall.now ?_); simp (config := { maxSteps := 1000000 }) only [SS, forall_const, wx, tguard, acallee, top, tval, fput, tor, vsh, vbin, tload, tload2, tload3, tstore, tstore2, tstore3, Go.AM.splice, one, tlen2, tlen3, tbox, tbs, tbs2, afill, tap, tap2, tap3, tap4, tsrc, tsrc2, Int.reduceEq, Int.reduceNeg, Nat.reduceGT, Nat.reduceLT, Nat.reduceLeDiff, Nat.reduceEqDiff, ↓reduceIte, reduceCtorEq, Int.reduceToNat, Int.reduceLE, Int.reduceLT, Nat.reduceAdd, Nat.reduceMul, q1, q2, q3, ho, wy_cells, wy_one, wy_all, wy_len, hset_at, hb1, h10, spw, tw, ff_67]) | (refine WK.condT ?_ ?_; focus (simp only [ev_tmp, ev_const, fset_apply, Nat.reduceEqDiff, ↓reduceIte, decide_true, decide_false, q1, q2, q3, ho, wy_cells, wy_one, wy_all, wy_len, hset_at, hb1, h10, spw, tw, ff_67]; done)) | (refine WK.condF ?_ ?_; focus (simp only [ev_tmp, ev_const, fset_apply, Nat.reduceEqDiff, ↓reduceIte, decide_true, decide_false, q1, q2, q3, ho, wy_cells, wy_one, wy_all, wy_len, hset_at, hb1, h10, spw, tw, ff_67]; done)))
    (first | refine WK.retNil ⟨Or.inr rfl, _, rfl, ?_, ?_⟩ | refine WK.skipNil ⟨Or.inl rfl, _, rfl, ?_, ?_⟩)
    · intro q hq hX
      exact (hset_ne _ _ _ (by omega)).trans ((hset_ne _ _ _ (by omega)).trans ((hset_ne _ _ _ (by omega)).trans (hset_ne _ _ _ (by omega))))
    · simp only [packed, fset_apply, Nat.reduceEqDiff, ↓reduceIte, List.getD_cons_zero, List.getD_cons_succ, ff_67]
      refine ⟨n1 + 1 + 1, by omega, ⟨by omega, by omega, by omega, .inr ⟨[(p, yw)], rfl, by simp, by omega, hset_at _ _ _, (hset_ne _ _ _ (by omega)).trans (hset_at _ _ _), fun q hq => ?_⟩⟩, rfl⟩
      obtain rfl : q = (p, yw) := by simpa using hq
      refine ⟨RS.keep hp fun b hb => ?_, fun b hb => ?_⟩
      · obtain ⟨e1, e2, e3⟩ := hpb b hb
        exact (hset_ne _ _ _ (by omega)).trans ((hset_ne _ _ _ (by omega)).trans ((hset_ne _ _ _ (by omega)).trans (hset_ne _ _ _ (by omega))))
      · obtain ⟨e1, e2, e3⟩ := hpb b hb
        exact ⟨by omega, e2, by omega⟩
  · have hv1 : vs.length = 1 := by have := List.length_pos_iff.2 hne; omega
    have hql : qs.length = 1 := by rw [← hqv, List.length_map] at hv1; exact hv1
    have hC2 : (qs.flatMap fun q => wyC q.1 q.2).length = 2 := by rw [wys_len]; omega
    have hCt : (qs.flatMap fun q => wyC q.1 q.2).take 2 = qs.flatMap fun q => wyC q.1 q.2 := List.take_of_length_le (by omega)
    rw [hv1] at ho
    have hCe : (qs ++ [(p, yw)]).flatMap (fun q => wyC q.1 q.2) = (qs.flatMap fun q => wyC q.1 q.2) ++ wyC p yw := by rw [List.flatMap_append]; simp
    generalize hCg : (qs.flatMap fun q => wyC q.1 q.2) = C at *
    have q4 : ∀ (H : Heap) ob, hset H n1 ob y = H y := fun H ob => hset_ne _ _ _ (by omega)
    have q5 : ∀ (H : Heap) ob, hset H (n1 + 1) ob y = H y := fun H ob => hset_ne _ _ _ (by omega)
    have q6 : ∀ (H : Heap) ob, hset H y ob N = H N := fun H ob => hset_ne _ _ _ (by omega)
    have hct : [n1 + 1].contains y = false := by simp; omega
    have hb2 : 2 ≤ bigN := by unfold bigN; omega
    repeat (first | apply WK.seq | apply WK.block | apply WK.skipSeq | apply WK.skipBlock | apply WK.retSeq | apply WK.retBlock | apply WK.exitSeq | apply WK.exitHere | refine WK.exitOn rfl ?_ | ((first | (refine WK.rgn ?_ ?_; kernel_rfl) | refine AtCall.now ?_); simp (config := { maxSteps := 1000000 }) only [SS, forall_const, wx, tguard, acallee, top, tval, fput, tor, vsh, vbin, tload, tload2, tload3, tstore, tstore2, tstore3, Go.AM.splice, one, tlen2, tlen3, tbox, tbs, tbs2, afill, tap, tap2, tap3, tap4, tsrc, tsrc2, Int.reduceEq, Int.reduceNeg, Nat.reduceGT, Nat.reduceLT, Nat.reduceLeDiff, Nat.reduceEqDiff, ↓reduceIte, reduceCtorEq, Int.reduceToNat, Int.reduceLE, Int.reduceLT, Nat.reduceAdd, Nat.reduceMul, q1, q2, q3, q4, q5, q6, ho, hy, wy_cells, wy_one, wy_all, wy_len, hset_at, hb1, hb2, h10, spw, tw, hC2, hCt, hct, List.drop_zero, ff_67]) | (refine WK.condT ?_ ?_; focus (simp only [ev_tmp, ev_const, fset_apply, Nat.reduceEqDiff, ↓reduceIte, decide_true, decide_false, q1, q2, q3, q4, q5, q6, ho, hy, wy_cells, wy_one, wy_all, wy_len, hset_at, hb1, hb2, h10, spw, tw, hC2, hCt, hct, List.drop_zero, ff_67]; done)) | (refine WK.condF ?_ ?_; focus (simp only [ev_tmp, ev_const, fset_apply, Nat.reduceEqDiff, ↓reduceIte, decide_true, decide_false, q1, q2, q3, q4, q5, q6, ho, hy, wy_cells, wy_one, wy_all, wy_len, hset_at, hb1, hb2, h10, spw, tw, hC2, hCt, hct, List.drop_zero, ff_67]; done)))
    (first | refine WK.retNil ⟨Or.inr rfl, _, rfl, ?_, ?_⟩ | refine WK.skipNil ⟨Or.inl rfl, _, rfl, ?_, ?_⟩)
    · intro q hq hX
      exact (hset_ne _ _ _ (by omega)).trans ((hset_ne _ _ _ (by omega)).trans ((hset_ne _ _ _ (by omega)).trans ((hset_ne _ _ _ (by omega)).trans (hset_ne _ _ _ (by omega)))))
    · simp only [packed, fset_apply, Nat.reduceEqDiff, ↓reduceIte, List.getD_cons_zero, List.getD_cons_succ, ff_67]
      have hle : (vs ++ [yw]).length = 2 := by simp; omega
      refine ⟨n1 + 1 + 1, by omega, ⟨by omega, by omega, by omega, .inr ⟨qs ++ [(p, yw)], by rw [List.map_append, hqv]; rfl, by simp, by omega, ?_, ?_, fun q hq => ?_⟩⟩, ?_⟩
      · rw [hle]; exact hset_at _ _ _
      · rw [hCe]; exact (hset_ne _ _ _ (by omega)).trans (hset_at _ _ _)
      · rcases List.mem_append.1 hq with hq | hq
        · obtain ⟨h1, h2⟩ := hqs q hq
          refine ⟨RS.keep h1 fun b hb => ?_, fun b hb => ?_⟩
          · obtain ⟨e1, e2, e3⟩ := h2 b hb
            exact (hset_ne _ _ _ (by omega)).trans ((hset_ne _ _ _ (by omega)).trans ((hset_ne _ _ _ (by omega)).trans ((hset_ne _ _ _ (by omega)).trans (hset_ne _ _ _ (by omega)))))
          · obtain ⟨e1, e2, e3⟩ := h2 b hb
            exact ⟨by omega, e2, by omega⟩
        obtain rfl : q = (p, yw) := by simpa using hq
        refine ⟨RS.keep hp fun b hb => ?_, fun b hb => ?_⟩
        · obtain ⟨e1, e2, e3⟩ := hpb b hb
          exact (hset_ne _ _ _ (by omega)).trans ((hset_ne _ _ _ (by omega)).trans ((hset_ne _ _ _ (by omega)).trans ((hset_ne _ _ _ (by omega)).trans (hset_ne _ _ _ (by omega)))))
        · obtain ⟨e1, e2, e3⟩ := hpb b hb
          exact ⟨by omega, e2, by omega⟩
      · rw [hle]; rfl
set_option maxHeartbeats 16000000 in
theorem first_gives (hw0 : WF n0 H0) (hf0 : FO H0 fo m pt pv pr pw g w) (hm0 : MR H0 m ks rd) (hwl : w.length ≤ 10) (sg : Sgm g) {x : Nd} (hx1 : x.2.1 ≤ x.2.2) (hx2 : x.2.2 ≤ w.length) :
    Gives Try.prog 41 [.pointer (some ⟨fo, 0, none⟩), ndV x] n0 H0 fun v n2 H2 => WL H2 n0 v ((waysL g w rd 0 x).take 2) := by
  refine Gives.of orders ok41 (Nat.le_of_ble_eq_true rfl) ?_
  have hfo := hf0.f
  have k2 := Kp.new n0 H0 (.cells (ndC x) 67 true)
  have b1 := hset_at H0 n0 (.cells (ndC x) 67 true)
  repeat (first | apply WK.seq | apply WK.block | apply WK.skipSeq | apply WK.skipBlock | apply WK.retSeq | apply WK.retBlock | apply WK.exitSeq | apply WK.exitHere | refine WK.exitOn rfl ?_)
  (refine WK.rgn ?_ ?_; kernel_rfl; simp (config := { maxSteps := 1000000 }) only [SS, forall_const, wx, tguard, acallee, top, tval, fput, tload, tload2, tload3, tbox, one, talloc, still, still1, flat1, Int.reduceEq, Int.reduceNeg, Nat.reduceGT, Nat.reduceLT, Nat.reduceLeDiff, Nat.reduceEqDiff, ↓reduceIte, reduceCtorEq, Int.reduceToNat, Int.reduceLE, Int.reduceLT, Nat.reduceAdd, Nat.reduceMul, abox, ndC_cells, ndC_one, ndV, ff_41])
  repeat (first | apply WK.seq | apply WK.block | apply WK.skipSeq | apply WK.skipBlock | apply WK.retSeq | apply WK.retBlock | apply WK.exitSeq | apply WK.exitHere | refine WK.exitOn rfl ?_)
  generalize hset H0 n0 (.cells (ndC x) 67 true) = H2 at *
  have hw2 := k2.wf hw0
  have kq := Kp.new (n0 + 1) H2 (.cells [.slice none 0 0] 77 true)
  have b13 := (kq.keep n0 (by omega)).trans b1
  have bo := hset_at H2 (n0 + 1) (.cells [.slice none 0 0] 77 true)
  (refine WK.rgn ?_ ?_; kernel_rfl; simp (config := { maxSteps := 1000000 }) only [SS, forall_const, wx, tguard, acallee, top, tval, fput, tload, tload2, tload3, tbox, one, talloc, still, still1, flat1, Int.reduceEq, Int.reduceNeg, Nat.reduceGT, Nat.reduceLT, Nat.reduceLeDiff, Nat.reduceEqDiff, ↓reduceIte, reduceCtorEq, Int.reduceToNat, Int.reduceLE, Int.reduceLT, Nat.reduceAdd, Nat.reduceMul, ff_41])
  generalize hset H2 (n0 + 1) (.cells [.slice none 0 0] 77 true) = H3 at *
  have hw3 := kq.wf hw2
  have hcall := ways_gives (vs := []) (y := n0 + 1) hw2 (hf0.mono hw0 k2) (hm0.mono hw0 k2) hwl sg (first1_doc (N := n0 + 1) (H2 := H2)) hx1 hx2 (ah := 0) (by omega) hw3 kq.le (fun z hz => kq.keep z hz) ⟨Nat.le_refl _, by omega, by omega, .inl ⟨rfl, rfl, bo⟩⟩ (.inr rfl) (fun _ _ => trivial)
  rw [visit_take] at hcall
  repeat (first | apply WK.seq | apply WK.block | apply WK.skipSeq | apply WK.skipBlock | apply WK.retSeq | apply WK.retBlock | apply WK.exitSeq | apply WK.exitHere | refine WK.exitOn rfl ?_ | ((first | (refine WK.rgn ?_ ?_; kernel_rfl) | refine AtCall.now ?_); simp (config := { maxSteps := 1000000 }) only [SS, forall_const, wx, tguard, acallee, top, tval, fput, tload, tload2, tload3, tbox, one, talloc, still, still1, flat1, Int.reduceEq, Int.reduceNeg, Nat.reduceGT, Nat.reduceLT, Nat.reduceLeDiff, Nat.reduceEqDiff, ↓reduceIte, reduceCtorEq, Int.reduceToNat, Int.reduceLE, Int.reduceLT, Nat.reduceAdd, Nat.reduceMul, b13, ndC_all, ndC_len, ff_41]) | (refine WK.condT ?_ ?_; focus (simp only [ev_tmp, ev_const, fset_apply, Nat.reduceEqDiff, ↓reduceIte, decide_true, decide_false, b13, ndC_all, ndC_len, ff_41]; done)) | (refine WK.condF ?_ ?_; focus (simp only [ev_tmp, ev_const, fset_apply, Nat.reduceEqDiff, ↓reduceIte, decide_true, decide_false, b13, ndC_all, ndC_len, ff_41]; done)))
  refine AtCall.byX hcall ?_
  rintro v n4 H4 k4 ⟨y', hy', ho1, ho2, ho3, hI⟩
  rcases hI with ⟨h1, h2, ho⟩ | ⟨qs, h1, h2, h3, ho, hy, hqs⟩
  · simp (config := { maxSteps := 1000000 }) only [SS, forall_const, wx, tguard, acallee, top, tval, fput, tload, tload2, tload3, tbox, one, talloc, still, still1, flat1, Int.reduceEq, Int.reduceNeg, Nat.reduceGT, Nat.reduceLT, Nat.reduceLeDiff, Nat.reduceEqDiff, ↓reduceIte, reduceCtorEq, Int.reduceToNat, Int.reduceLE, Int.reduceLT, Nat.reduceAdd, Nat.reduceMul, ff_41]
    repeat (first | apply WK.seq | apply WK.block | apply WK.skipSeq | apply WK.skipBlock | apply WK.retSeq | apply WK.retBlock | apply WK.exitSeq | apply WK.exitHere | refine WK.exitOn rfl ?_ | ((first | (refine WK.rgn ?_ ?_; kernel_rfl) | refine AtCall.now ?_); simp (config := { maxSteps := 1000000 }) only [SS, forall_const, wx, tguard, acallee, top, tval, fput, tload, tload2, tload3, tbox, one, talloc, still, still1, flat1, Int.reduceEq, Int.reduceNeg, Nat.reduceGT, Nat.reduceLT, Nat.reduceLeDiff, Nat.reduceEqDiff, ↓reduceIte, reduceCtorEq, Int.reduceToNat, Int.reduceLE, Int.reduceLT, Nat.reduceAdd, Nat.reduceMul, ho, ff_41]) | (refine WK.condT ?_ ?_; focus (simp only [ev_tmp, ev_const, fset_apply, Nat.reduceEqDiff, ↓reduceIte, decide_true, decide_false, ho, ff_41]; done)) | (refine WK.condF ?_ ?_; focus (simp only [ev_tmp, ev_const, fset_apply, Nat.reduceEqDiff, ↓reduceIte, decide_true, decide_false, ho, ff_41]; done)))
    (first | refine WK.retNil ⟨Or.inr rfl, _, rfl, ?_, ?_⟩ | refine WK.skipNil ⟨Or.inl rfl, _, rfl, ?_, ?_⟩)
    · intro q hq
      exact (k4.keep q (by omega) (by omega)).trans ((kq.keep q (by omega)).trans (k2.keep q hq))
    · simp only [packed, fset_apply, Nat.reduceEqDiff, ↓reduceIte, List.getD_cons_zero, List.getD_cons_succ, ff_41]
      exact .inl ⟨h1, rfl⟩
  · simp (config := { maxSteps := 1000000 }) only [SS, forall_const, wx, tguard, acallee, top, tval, fput, tload, tload2, tload3, tbox, one, talloc, still, still1, flat1, Int.reduceEq, Int.reduceNeg, Nat.reduceGT, Nat.reduceLT, Nat.reduceLeDiff, Nat.reduceEqDiff, ↓reduceIte, reduceCtorEq, Int.reduceToNat, Int.reduceLE, Int.reduceLT, Nat.reduceAdd, Nat.reduceMul, ff_41]
    repeat (first | apply WK.seq | apply WK.block | apply WK.skipSeq | apply WK.skipBlock | apply WK.retSeq | apply WK.retBlock | apply WK.exitSeq | apply WK.exitHere | refine WK.exitOn rfl ?_ | ((first | (refine WK.rgn ?_ ?_; kernel_rfl) | refine AtCall.now ?_); simp (config := { maxSteps := 1000000 }) only [SS, forall_const, wx, tguard, acallee, top, tval, fput, tload, tload2, tload3, tbox, one, talloc, still, still1, flat1, Int.reduceEq, Int.reduceNeg, Nat.reduceGT, Nat.reduceLT, Nat.reduceLeDiff, Nat.reduceEqDiff, ↓reduceIte, reduceCtorEq, Int.reduceToNat, Int.reduceLE, Int.reduceLT, Nat.reduceAdd, Nat.reduceMul, ho, ff_41]) | (refine WK.condT ?_ ?_; focus (simp only [ev_tmp, ev_const, fset_apply, Nat.reduceEqDiff, ↓reduceIte, decide_true, decide_false, ho, ff_41]; done)) | (refine WK.condF ?_ ?_; focus (simp only [ev_tmp, ev_const, fset_apply, Nat.reduceEqDiff, ↓reduceIte, decide_true, decide_false, ho, ff_41]; done)))
    (first | refine WK.retNil ⟨Or.inr rfl, _, rfl, ?_, ?_⟩ | refine WK.skipNil ⟨Or.inl rfl, _, rfl, ?_, ?_⟩)
    · intro q hq
      exact (k4.keep q (by omega) (by omega)).trans ((kq.keep q (by omega)).trans (k2.keep q hq))
    · simp only [packed, fset_apply, Nat.reduceEqDiff, ↓reduceIte, List.getD_cons_zero, List.getD_cons_succ, ff_41]
      exact .inr ⟨y', qs, h1, h2, rfl, by omega, hy, fun q hq => (hqs q hq).1⟩
end
end Go.Proofs.Ytemkglelfeidhaa
