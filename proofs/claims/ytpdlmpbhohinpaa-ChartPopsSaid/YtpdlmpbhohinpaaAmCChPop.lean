/- A part of a proof. Its conditions: none. -/
import Derived.Test.YtpdlmpbhohinpaaAmCChShort
import Derived.Test.YtpdlmpbhohinpaaAmC
set_option linter.all false
namespace Go.Proofs.Ytpdlmpbhohinpaa
open Go.AM Go.RowKit
set_option maxRecDepth 100000
theorem WV.val {H : Heap} {N x : Nat} {v : Value} {w : List Int} (h : WV H N x v w) : ∃ p c, v = .slice p w.length c := by
  rcases h with ⟨rfl, rfl⟩ | ⟨c, cs, rfl, _⟩
  · exact ⟨none, 0, rfl⟩
  · exact ⟨_, c, rfl⟩
theorem len_gives' {H : Heap} {N o y x n : Nat} {pt pv pr pg pe pc : Option Addr} {g : Gram} {gd em : List Bool} {co : List Nat} {sets : List (List It)} {w : List Int}
    (hc : CHR H N o y x pt pv pr pg pe pc g gd em co sets w) :
    Gives Try.prog 13 [.pointer (some ⟨o, 0, none⟩)] n H fun v _ _ => v = .int .i64 (w.length : Nat) := by
  refine Gives.of orders ok13 (Nat.le_of_ble_eq_true rfl) ?_
  obtain ⟨c, wv, cs, ho, hyN, hy, hyl, hsr, hwv⟩ := id hc
  obtain ⟨p, cw, rfl⟩ := hwv.val
  repeat (first | apply qqa | apply qqb | apply qqc | apply qqd | apply qqe | apply qqf | apply qqg | apply qqh | refine qqi rfl ?_ | ((first | (refine WK.rgn ?_ ?_; kernel_rfl) | refine AtCall.now ?_); simp (config := { maxSteps := 1000000 }) only [SS, qg0, qgl, qgf, forall_const, tlen2, Int.reduceEq, Int.reduceNeg, Nat.reduceGT, Nat.reduceLT, Nat.reduceLeDiff, Nat.reduceEqDiff, ↓reduceIte, reduceCtorEq, Int.reduceToNat, Int.reduceLE, Int.reduceLT, Nat.reduceAdd, Nat.reduceMul, ho, ch7, aop_nc, tnc, ff_13]) | (refine WK.condT ?_ ?_; focus (simp only [ev_tmp, ev_const, fset_apply, Nat.reduceEqDiff, ↓reduceIte, decide_true, decide_false, ho, ch7, aop_nc, tnc, ff_13]; done)) | (refine WK.condF ?_ ?_; focus (simp only [ev_tmp, ev_const, fset_apply, Nat.reduceEqDiff, ↓reduceIte, decide_true, decide_false, ho, ch7, aop_nc, tnc, ff_13]; done)))
  (first | refine WK.retNil ⟨Or.inr rfl, _, rfl, ?_, ?_⟩ | refine WK.skipNil ⟨Or.inl rfl, _, rfl, ?_, ?_⟩)
  · exact fun _ _ => rfl
  · simp only [packed, fset_apply, Nat.reduceEqDiff, ↓reduceIte, List.getD_cons_zero, List.getD_cons_succ, ff_13]
theorem clone_gives {H : Heap} {p : Option Addr} {c n : Nat} {w : List Int} (hw : WF n H) (hwl : w.length ≤ 1000000) (h : (w = [] ∧ p = none ∧ c = 0) ∨ ∃ x k cs ty own, p = some ⟨x, k, none⟩ ∧ H x = .cells cs ty own ∧ k + w.length ≤ cs.length ∧ (cs.drop k).take w.length = w.map (.int .i64)) :
    Gives Try.prog 47 [.slice p w.length c] n H fun v _ H' => ∃ q, v = .slice q w.length w.length ∧ ((q = none ∧ w = []) ∨ ∃ z, q = some ⟨z, 0, none⟩ ∧ n ≤ z ∧ H' z = .cells (w.map (.int .i64)) 3 true) := by
  refine Gives.of orders ok47 (Nat.le_of_ble_eq_true rfl) ?_
  rcases h with ⟨rfl, rfl, rfl⟩ | ⟨x, k, cs, ty, own, rfl, hx, hl, ht⟩
  · have hu : Try.prog.underlying 26 = some (.slice 3) := by kernel_rfl
    repeat (first | apply qqa | apply qqb | apply qqc | apply qqd | apply qqe | apply qqf | apply qqg | apply qqh | refine qqi rfl ?_ | ((first | (refine WK.rgn ?_ ?_; kernel_rfl) | refine AtCall.now ?_); simp (config := { maxSteps := 1000000 }) only [SS, qg0, qgb, qgz, qge, forall_const, tor, Go.AM.splice, one, Int.reduceEq, Int.reduceNeg, Nat.reduceGT, Nat.reduceLT, Nat.reduceLeDiff, Nat.reduceEqDiff, ↓reduceIte, reduceCtorEq, Int.reduceToNat, Int.reduceLE, Int.reduceLT, Nat.reduceAdd, Nat.reduceMul, List.length_nil, aop_sn hu, asn, ff_47]) | (refine WK.condT ?_ ?_; focus (simp only [ev_tmp, ev_const, fset_apply, Nat.reduceEqDiff, ↓reduceIte, decide_true, decide_false, List.length_nil, aop_sn hu, asn, ff_47]; done)) | (refine WK.condF ?_ ?_; focus (simp only [ev_tmp, ev_const, fset_apply, Nat.reduceEqDiff, ↓reduceIte, decide_true, decide_false, List.length_nil, aop_sn hu, asn, ff_47]; done)))
    (first | refine WK.retNil ⟨Or.inr rfl, _, rfl, ?_, ?_⟩ | refine WK.skipNil ⟨Or.inl rfl, _, rfl, ?_, ?_⟩)
    · exact fun _ _ => rfl
    · simp only [packed, fset_apply, Nat.reduceEqDiff, ↓reduceIte, List.getD_cons_zero, List.getD_cons_succ, ff_47]
      exact ⟨none, rfl, by simp⟩
  · have hxn : x < n := Classical.byContradiction fun hc => by rw [hw x (by omega)] at hx; cases hx
    have k1 := Kp.new n H (.cells [] 3 true)
    have b1 := hset_at H n (.cells [] 3 true)
    have x1 := (k1.keep x hxn).trans hx
    have z1 : w.length ≤ bigN := by unfold bigN; omega
    have z2 : [x].contains n = false := by simp; omega
    generalize hE1 : hset H n (.cells [] 3 true) = H1 at *
    have k2 := k1.set (x := n) .dead (Nat.le_refl _) (by omega)
    generalize hE2 : hset H1 n .dead = H2 at *
    have k3 := Kp.new (n + 1) H2 (.cells (w.map (.int .i64)) 3 true)
    have b3 := hset_at H2 (n + 1) (.cells (w.map (.int .i64)) 3 true)
    have hu : Try.prog.underlying 26 = some (.slice 3) := by kernel_rfl
    repeat (first | apply qqa | apply qqb | apply qqc | apply qqd | apply qqe | apply qqf | apply qqg | apply qqh | refine qqi rfl ?_ | ((first | (refine WK.rgn ?_ ?_; kernel_rfl) | refine AtCall.now ?_); simp (config := { maxSteps := 1000000 }) only [SS, qg0, qgb, qgz, qge, forall_const, tor, Go.AM.splice, one, Int.reduceEq, Int.reduceNeg, Nat.reduceGT, Nat.reduceLT, Nat.reduceLeDiff, Nat.reduceEqDiff, ↓reduceIte, reduceCtorEq, Int.reduceToNat, Int.reduceLE, Int.reduceLT, Nat.reduceAdd, Nat.reduceMul, aop_sn hu, asn, hE1, hx, x1, b1, hl, z1, z2, hE2, List.drop_zero, List.take_zero, List.nil_append, Nat.zero_add, ht, ff_47]) | (refine WK.condT ?_ ?_; focus (simp only [ev_tmp, ev_const, fset_apply, Nat.reduceEqDiff, ↓reduceIte, decide_true, decide_false, aop_sn hu, asn, hE1, hx, x1, b1, hl, z1, z2, hE2, List.drop_zero, List.take_zero, List.nil_append, Nat.zero_add, ht, ff_47]; done)) | (refine WK.condF ?_ ?_; focus (simp only [ev_tmp, ev_const, fset_apply, Nat.reduceEqDiff, ↓reduceIte, decide_true, decide_false, aop_sn hu, asn, hE1, hx, x1, b1, hl, z1, z2, hE2, List.drop_zero, List.take_zero, List.nil_append, Nat.zero_add, ht, ff_47]; done)))
    (first | refine WK.retNil ⟨Or.inr rfl, _, rfl, ?_, ?_⟩ | refine WK.skipNil ⟨Or.inl rfl, _, rfl, ?_, ?_⟩)
    · exact (k2.trans k3).keep
    · simp only [packed, fset_apply, Nat.reduceEqDiff, ↓reduceIte, List.getD_cons_zero, List.getD_cons_succ, ff_47]
      exact ⟨_, rfl, .inr ⟨n + 1, rfl, by omega, b3⟩⟩
def WO (n : Nat) (H : Heap) (v : Value) (w : List Int) : Prop := ∃ q, v = .slice q w.length w.length ∧ ((q = none ∧ w = []) ∨ ∃ z, q = some ⟨z, 0, none⟩ ∧ n ≤ z ∧ H z = .cells (w.map (.int .i64)) 3 true)
theorem WO.rs {n : Nat} {H : Heap} {v : Value} {w : List Int} (h : WO n H v w) : ∃ q, v = .slice q w.length w.length ∧ RS (Value.int .i64) H q w := by
  obtain ⟨q, rfl, h | ⟨z, rfl, _, hz⟩⟩ := h
  · exact ⟨q, rfl, .inl h⟩
  · exact ⟨_, rfl, .inr ⟨z, 0, _, _, _, rfl, hz, by simp, fun i y e => by rw [Nat.zero_add, List.getElem?_map, e]; rfl⟩⟩
theorem word_gives {H : Heap} {N o y x n : Nat} {pt pv pr pg pe pc : Option Addr} {g : Gram} {gd em : List Bool} {co : List Nat} {sets : List (List It)} {w : List Int} (hw : WF n H) (hwl : w.length ≤ 400)
    (hc : CHR H N o y x pt pv pr pg pe pc g gd em co sets w) :
    Gives Try.prog 15 [.pointer (some ⟨o, 0, none⟩)] n H fun v _ H' => WO n H' v w := by
  refine Gives.of orders ok15 (Nat.le_of_ble_eq_true rfl) ?_
  obtain ⟨c, wv, cs, ho, hyN, hy, hyl, hsr, hwv⟩ := id hc
  obtain ⟨p, cw, rfl⟩ := hwv.val
  repeat (first | apply qqa | apply qqb | apply qqc | apply qqd | apply qqe | apply qqf | apply qqg | apply qqh | refine qqi rfl ?_ | ((first | (refine WK.rgn ?_ ?_; kernel_rfl) | refine AtCall.now ?_); simp (config := { maxSteps := 1000000 }) only [SS, qg0, qgl, qgf, forall_const, Int.reduceEq, Int.reduceNeg, Nat.reduceGT, Nat.reduceLT, Nat.reduceLeDiff, Nat.reduceEqDiff, ↓reduceIte, reduceCtorEq, Int.reduceToNat, Int.reduceLE, Int.reduceLT, Nat.reduceAdd, Nat.reduceMul, ho, ch7, aop_nc, tnc, ff_15]) | (refine WK.condT ?_ ?_; focus (simp only [ev_tmp, ev_const, fset_apply, Nat.reduceEqDiff, ↓reduceIte, decide_true, decide_false, ho, ch7, aop_nc, tnc, ff_15]; done)) | (refine WK.condF ?_ ?_; focus (simp only [ev_tmp, ev_const, fset_apply, Nat.reduceEqDiff, ↓reduceIte, decide_true, decide_false, ho, ch7, aop_nc, tnc, ff_15]; done)))
  refine AtCall.by (clone_gives (w := w) hw (by omega) ?_) ?_
  · rcases hwv with ⟨h1, h2⟩ | ⟨c2, cx, h1, h2, h3, h4, h5⟩
    · subst h1; cases h2; exact .inl ⟨rfl, rfl, rfl⟩
    · cases h1; exact .inr ⟨x, 0, cx, _, _, rfl, h3, by omega, h5⟩
  rintro v n2 H2 hk2 hv
  simp (config := { maxSteps := 1000000 }) only [SS, qg0, qgl, qgf, forall_const, Int.reduceEq, Int.reduceNeg, Nat.reduceGT, Nat.reduceLT, Nat.reduceLeDiff, Nat.reduceEqDiff, ↓reduceIte, reduceCtorEq, Int.reduceToNat, Int.reduceLE, Int.reduceLT, Nat.reduceAdd, Nat.reduceMul, ff_15]
  repeat (first | apply qqa | apply qqb | apply qqc | apply qqd | apply qqe | apply qqf | apply qqg | apply qqh | refine qqi rfl ?_ | ((first | (refine WK.rgn ?_ ?_; kernel_rfl) | refine AtCall.now ?_); simp (config := { maxSteps := 1000000 }) only [SS, qg0, qgl, qgf, forall_const, Int.reduceEq, Int.reduceNeg, Nat.reduceGT, Nat.reduceLT, Nat.reduceLeDiff, Nat.reduceEqDiff, ↓reduceIte, reduceCtorEq, Int.reduceToNat, Int.reduceLE, Int.reduceLT, Nat.reduceAdd, Nat.reduceMul, ff_15]) | (refine WK.condT ?_ ?_; focus (simp only [ev_tmp, ev_const, fset_apply, Nat.reduceEqDiff, ↓reduceIte, decide_true, decide_false, ff_15]; done)) | (refine WK.condF ?_ ?_; focus (simp only [ev_tmp, ev_const, fset_apply, Nat.reduceEqDiff, ↓reduceIte, decide_true, decide_false, ff_15]; done)))
  (first | refine WK.retNil ⟨Or.inr rfl, _, rfl, ?_, ?_⟩ | refine WK.skipNil ⟨Or.inl rfl, _, rfl, ?_, ?_⟩)
  · exact hk2.keep
  · simp only [packed, fset_apply, Nat.reduceEqDiff, ↓reduceIte, List.getD_cons_zero, List.getD_cons_succ, ff_15]
    exact hv
theorem SR.take {H : Heap} {cs : List Value} {sets : List (List It)} (h : SR H cs sets) : SR H cs sets.dropLast := fun i hi => by
  have hi' : i < sets.length := by rw [List.length_dropLast] at hi; omega
  obtain ⟨pp, a, b⟩ := h i hi'
  rw [List.getElem_dropLast]
  exact ⟨pp, a, b⟩
set_option maxHeartbeats 4000000 in
theorem pop_gives {S H : Heap} {N o y x n : Nat} {pt pv pr pg pe pc : Option Addr} {g : Gram} {gd em : List Bool} {co : List Nat} {sets : List (List It)} {w : List Int} (st : Stat S N pr pg pe pc g gd em co) (hso : S o = .dead) (hw : WF n H) (hS : Sub S H) (hN : N ≤ n) (hoN : o < N)
    (hc : CHR H N o y x pt pv pr pg pe pc g gd em co sets w) (ha : sets.length ≤ 400) (hsw : sets.length = w.length + 1) :
    GivesX Try.prog (fun z => z = o ∨ N ≤ z) 26 [.pointer (some ⟨o, 0, none⟩)] n H fun v _ H' => v = .bool (decide (w ≠ [])) ∧ RC (fun z => z = o ∨ z = y ∨ z = x) H H' ∧
      CHR H' N o y x pt pv pr pg pe pc g gd em co (if w = [] then sets else sets.dropLast) w.dropLast := by
  refine GivesX.of orders ok26 (Nat.le_of_ble_eq_true rfl) ?_
  obtain ⟨c, wv, cs, ho, hyN, hy, hyl, hsr, hwv⟩ := id hc
  have low : ∀ {z cs ty own}, H z = .cells cs ty own → z < n := fun {z cs ty own} e => Classical.byContradiction fun hc => by rw [hw z (by omega)] at e; cases e
  have hon := low ho
  have hyn := low hy
  have h00 : (((0 : Nat) : Int) = 0) = True := by simp
  rcases hwv with ⟨rfl, rfl⟩ | ⟨cw, cx, rfl, hxN, hx, hxl, hxt⟩
  · repeat (first | apply qqa | apply qqb | apply qqc | apply qqd | apply qqe | apply qqf | apply qqg | apply qqh | refine qqi rfl ?_ | ((first | (refine WK.rgn ?_ ?_; kernel_rfl) | refine AtCall.now ?_); simp (config := { maxSteps := 1000000 }) only [SS, qg0, qgb, qgl, qgs, qgf, qgx, forall_const, tor, Go.AM.splice, one, tlen2, Int.reduceEq, Int.reduceNeg, Nat.reduceGT, Nat.reduceLT, Nat.reduceLeDiff, Nat.reduceEqDiff, ↓reduceIte, reduceCtorEq, Int.reduceToNat, Int.reduceLE, Int.reduceLT, Nat.reduceAdd, Nat.reduceMul, ho, ch7, aop_nc, tnc, List.length_nil, h00, ff_26]) | (refine WK.condT ?_ ?_; focus (simp only [ev_tmp, ev_const, fset_apply, Nat.reduceEqDiff, ↓reduceIte, decide_true, decide_false, ho, ch7, aop_nc, tnc, List.length_nil, h00, ff_26]; done)) | (refine WK.condF ?_ ?_; focus (simp only [ev_tmp, ev_const, fset_apply, Nat.reduceEqDiff, ↓reduceIte, decide_true, decide_false, ho, ch7, aop_nc, tnc, List.length_nil, h00, ff_26]; done)))
    (first | refine WK.retNil ⟨Or.inr rfl, _, rfl, ?_, ?_⟩ | refine WK.skipNil ⟨Or.inl rfl, _, rfl, ?_, ?_⟩)
    · exact fun _ _ _ => rfl
    · simp only [packed, fset_apply, Nat.reduceEqDiff, ↓reduceIte, List.getD_cons_zero, List.getD_cons_succ, ff_26]
      exact ⟨by simp, .refl _ _, by simpa using hc⟩
  · by_cases h0 : w = []
    · subst h0
      repeat (first | apply qqa | apply qqb | apply qqc | apply qqd | apply qqe | apply qqf | apply qqg | apply qqh | refine qqi rfl ?_ | ((first | (refine WK.rgn ?_ ?_; kernel_rfl) | refine AtCall.now ?_); simp (config := { maxSteps := 1000000 }) only [SS, qg0, qgb, qgl, qgs, qgf, qgx, forall_const, tor, Go.AM.splice, one, tlen2, Int.reduceEq, Int.reduceNeg, Nat.reduceGT, Nat.reduceLT, Nat.reduceLeDiff, Nat.reduceEqDiff, ↓reduceIte, reduceCtorEq, Int.reduceToNat, Int.reduceLE, Int.reduceLT, Nat.reduceAdd, Nat.reduceMul, ho, ch7, aop_nc, tnc, List.length_nil, h00, ff_26]) | (refine WK.condT ?_ ?_; focus (simp only [ev_tmp, ev_const, fset_apply, Nat.reduceEqDiff, ↓reduceIte, decide_true, decide_false, ho, ch7, aop_nc, tnc, List.length_nil, h00, ff_26]; done)) | (refine WK.condF ?_ ?_; focus (simp only [ev_tmp, ev_const, fset_apply, Nat.reduceEqDiff, ↓reduceIte, decide_true, decide_false, ho, ch7, aop_nc, tnc, List.length_nil, h00, ff_26]; done)))
      (first | refine WK.retNil ⟨Or.inr rfl, _, rfl, ?_, ?_⟩ | refine WK.skipNil ⟨Or.inl rfl, _, rfl, ?_, ?_⟩)
      · exact fun _ _ _ => rfl
      · simp only [packed, fset_apply, Nat.reduceEqDiff, ↓reduceIte, List.getD_cons_zero, List.getD_cons_succ, ff_26]
        exact ⟨by simp, .refl _ _, by simpa using hc⟩
    · have hl0 : 0 < w.length := List.length_pos_iff.2 h0
      have hw0 : ((w.length : Int) = 0) = False := by simp; omega
      have hs1 : IntKind.wrap .i64 ((sets.length : Int) - 1) = ((sets.length - 1 : Nat) : Int) := by rw [wrap_in (by omega) (by omega)]; omega
      have hs2 : IntKind.wrap .i64 ((w.length : Int) - 1) = ((w.length - 1 : Nat) : Int) := by rw [wrap_in (by omega) (by omega)]; omega
      have hxo : x ≠ o := by omega
      have hxn := low hx
      have oE := hset_at H o (.cells (chC pt pv pr pg pe pc g gd em co (.slice (some ⟨y, 0, none⟩) (sets.length - 1) (sets.length - 1)) (.slice (some ⟨x, 0, none⟩) w.length cw)) 62 true)
      have kE := (Kx.refl (fun z => z = o ∨ N ≤ z) n H).set (x := o) (.cells (chC pt pv pr pg pe pc g gd em co (.slice (some ⟨y, 0, none⟩) (sets.length - 1) (sets.length - 1)) (.slice (some ⟨x, 0, none⟩) w.length cw)) 62 true) (.inl (.inl rfl)) hon
      have rE : RC (fun z => z = o ∨ z = y ∨ z = x) H _ := .setY (o := (.cells (chC pt pv pr pg pe pc g gd em co (.slice (some ⟨y, 0, none⟩) (sets.length - 1) (sets.length - 1)) (.slice (some ⟨x, 0, none⟩) w.length cw)) 62 true)) ho (.inl rfl)
      have nE := fun z (hz : z ≠ o) => hset_ne H o (.cells (chC pt pv pr pg pe pc g gd em co (.slice (some ⟨y, 0, none⟩) (sets.length - 1) (sets.length - 1)) (.slice (some ⟨x, 0, none⟩) w.length cw)) 62 true) hz
      generalize hE : hset H o (.cells (chC pt pv pr pg pe pc g gd em co (.slice (some ⟨y, 0, none⟩) (sets.length - 1) (sets.length - 1)) (.slice (some ⟨x, 0, none⟩) w.length cw)) 62 true) = HE at *
      have chl7 : ∀ v w, 7 ≤ (chC pt pv pr pg pe pc g gd em co v w).length := fun v w => by rw [chl]; omega
      have chl8 : ∀ v w, 8 ≤ (chC pt pv pr pg pe pc g gd em co v w).length := fun v w => Nat.le_of_eq chl.symm
      repeat (first | apply qqa | apply qqb | apply qqc | apply qqd | apply qqe | apply qqf | apply qqg | apply qqh | refine qqi rfl ?_)
      (refine WK.rgn ?_ ?_; kernel_rfl; simp (config := { maxSteps := 1000000 }) only [SS, qg0, qgb, qgl, qgs, qgf, qgx, forall_const, tor, Go.AM.splice, one, tlen2, Int.reduceEq, Int.reduceNeg, Nat.reduceGT, Nat.reduceLT, Nat.reduceLeDiff, Nat.reduceEqDiff, ↓reduceIte, reduceCtorEq, Int.reduceToNat, Int.reduceLE, Int.reduceLT, Nat.reduceAdd, Nat.reduceMul, ff_26])
      repeat (first | apply qqa | apply qqb | apply qqc | apply qqd | apply qqe | apply qqf | apply qqg | apply qqh | refine qqi rfl ?_)
      (refine WK.rgn ?_ ?_; kernel_rfl; simp (config := { maxSteps := 1000000 }) only [SS, qg0, qgb, qgl, qgs, qgf, qgx, forall_const, tor, Go.AM.splice, one, tlen2, Int.reduceEq, Int.reduceNeg, Nat.reduceGT, Nat.reduceLT, Nat.reduceLeDiff, Nat.reduceEqDiff, ↓reduceIte, reduceCtorEq, Int.reduceToNat, Int.reduceLE, Int.reduceLT, Nat.reduceAdd, Nat.reduceMul, ho, ch7, aop_nc, tnc, hw0, ff_26])
      repeat (first | apply qqa | apply qqb | apply qqc | apply qqd | apply qqe | apply qqf | apply qqg | apply qqh | refine qqi rfl ?_)
      first | (refine WK.condT ?_ ?_; focus (simp only [ev_tmp, ev_const, fset_apply, Nat.reduceEqDiff, ↓reduceIte, decide_true, decide_false]; done)) | (refine WK.condF ?_ ?_; focus (simp only [ev_tmp, ev_const, fset_apply, Nat.reduceEqDiff, ↓reduceIte, decide_true, decide_false]; done))
      repeat (first | apply qqa | apply qqb | apply qqc | apply qqd | apply qqe | apply qqf | apply qqg | apply qqh | refine qqi rfl ?_)
      have hz1 : isz Try.prog 69 = some 2 := by kernel_rfl
      have hz2 : isz Try.prog 3 = some 1 := by kernel_rfl
      have oF := hset_at HE o (.cells (chC pt pv pr pg pe pc g gd em co (.slice (some ⟨y, 0, none⟩) (sets.length - 1) (sets.length - 1)) (.slice (some ⟨x, 0, none⟩) (w.length - 1) (w.length - 1))) 62 true)
      have kF := kE.set (x := o) (.cells (chC pt pv pr pg pe pc g gd em co (.slice (some ⟨y, 0, none⟩) (sets.length - 1) (sets.length - 1)) (.slice (some ⟨x, 0, none⟩) (w.length - 1) (w.length - 1))) 62 true) (.inl (.inl rfl)) hon
      have rF := rE.trans (.setY (o := (.cells (chC pt pv pr pg pe pc g gd em co (.slice (some ⟨y, 0, none⟩) (sets.length - 1) (sets.length - 1)) (.slice (some ⟨x, 0, none⟩) (w.length - 1) (w.length - 1))) 62 true)) oE (.inl rfl))
      have nF := fun z (hz : z ≠ o) => hset_ne HE o (.cells (chC pt pv pr pg pe pc g gd em co (.slice (some ⟨y, 0, none⟩) (sets.length - 1) (sets.length - 1)) (.slice (some ⟨x, 0, none⟩) (w.length - 1) (w.length - 1))) 62 true) hz
      generalize hF : hset HE o (.cells (chC pt pv pr pg pe pc g gd em co (.slice (some ⟨y, 0, none⟩) (sets.length - 1) (sets.length - 1)) (.slice (some ⟨x, 0, none⟩) (w.length - 1) (w.length - 1))) 62 true) = HF at *
      (refine WK.rgl [(21, 26), (23, 26)] (by kernel_rfl) ?_; simp (config := { maxSteps := 1000000 }) only [wl, wl1_false, wl1_true, wl2_none, wl2_some, wl3_some, wl3_none, SS, forall_const, wx, tguard, acallee, top, tval, fput, tor, vsh, vbin, tload, tload2, tload3, tstore, tstore2, tstore3, Go.AM.splice, one, tfa, tfa2, tlen2, tsl, tsl2, tsl3, tsl4, tsl5, Go.AM.bound, Int.reduceEq, Int.reduceNeg, Nat.reduceGT, Nat.reduceLT, Nat.reduceLeDiff, Nat.reduceEqDiff, ↓reduceIte, reduceCtorEq, Int.reduceToNat, Int.reduceLE, Int.reduceLT, Nat.reduceAdd, Nat.reduceMul, hz1, hz2, Nat.sub_le, and_self, implies_true, hF, ho, ch6, ch7, aop_nc, tnc, hs1, hs2, hy, hx, hE, oE, chl7, chl8, chs6, chs7, Nat.zero_mul, Nat.add_zero, Nat.sub_zero, Nat.zero_le, ff_26])
      refine ⟨light_cons rfl rfl (lapart_rw (by simp)) (light_cons rfl rfl (lapart_rw (by simp; omega)) light_nil), ?_⟩
      repeat (first | apply qqa | apply qqb | apply qqc | apply qqd | apply qqe | apply qqf | apply qqg | apply qqh | refine qqi rfl ?_ | ((first | (refine WK.rgn ?_ ?_; kernel_rfl) | refine AtCall.now ?_); simp (config := { maxSteps := 1000000 }) only [SS, qg0, qgb, qgl, qgs, qgf, qgx, forall_const, tor, Go.AM.splice, one, tlen2, Int.reduceEq, Int.reduceNeg, Nat.reduceGT, Nat.reduceLT, Nat.reduceLeDiff, Nat.reduceEqDiff, ↓reduceIte, reduceCtorEq, Int.reduceToNat, Int.reduceLE, Int.reduceLT, Nat.reduceAdd, Nat.reduceMul, ff_26]) | (refine WK.condT ?_ ?_; focus (simp only [ev_tmp, ev_const, fset_apply, Nat.reduceEqDiff, ↓reduceIte, decide_true, decide_false, ff_26]; done)) | (refine WK.condF ?_ ?_; focus (simp only [ev_tmp, ev_const, fset_apply, Nat.reduceEqDiff, ↓reduceIte, decide_true, decide_false, ff_26]; done)))
      (first | refine WK.retNil ⟨Or.inr rfl, _, rfl, ?_, ?_⟩ | refine WK.skipNil ⟨Or.inl rfl, _, rfl, ?_, ?_⟩)
      · exact kF.keep
      · simp only [packed, fset_apply, Nat.reduceEqDiff, ↓reduceIte, List.getD_cons_zero, List.getD_cons_succ, ff_26]
        have hdl : sets.dropLast.length = sets.length - 1 := List.length_dropLast
        have hdw : w.dropLast.length = w.length - 1 := List.length_dropLast
        rw [if_neg h0]
        refine ⟨by simp [h0], rF, sets.length - 1, .slice (some ⟨x, 0, none⟩) (w.length - 1) (w.length - 1), cs, ?_, hyN, (nF y (by omega)).trans ((nE y (by omega)).trans hy), by omega, fun i hi => ?_, .inr ⟨w.length - 1, cx, by rw [hdw], hxN, (nF x hxo).trans ((nE x hxo).trans hx), by omega, ?_⟩⟩
        · rw [hdl]; exact oF
        · obtain ⟨pp, a, b⟩ := hsr.take i hi
          exact ⟨pp, a, b.rk rF.1⟩
        · rw [hdw, List.dropLast_eq_take, List.map_take, ← hxt, List.take_take]
          congr 1
          omega
end Go.Proofs.Ytpdlmpbhohinpaa
