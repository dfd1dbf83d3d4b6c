/- A part of a proof. Its conditions: none. -/
import Derived.Test.YtfbdababcdfjfaaAmNAtLookP
set_option linter.all false
namespace Go.Proofs.Ytfbdababcdfjfaa
open Go.AM Go.AM.Fo
set_option maxRecDepth 100000
theorem aop_slnil {P : Program} {f : Fr} {n : Nat} {H : Heap} {d : Option Nat} {t e : TypeId} {x h : Operand} {ty : TypeId} {p : String} {af : Array Edge} {gd : Option (Nat × Bool)} (he : P.underlying t = some (.slice e)) (hj : (P.info? e).isSome = true) (hx : evalA f x = .slice none 0 0) (hh : evalA f h = .int .i64 ((0 : Nat) : Int)) :
  aop P (evalA f) n H ⟨d, .slice t x none (some h) none, ty, p, af, gd⟩ = some { v := .slice none 0 0 } := by
 show (match evalA f x with | .slice a b c => aslice P H t (.slice a b c) (Option.map (evalA f) none) (Option.map (evalA f) (some h)) | .pointer a => _ | _ => _) = _
 rw [hx]
 show aslice P H t (.slice none 0 0) none (some (evalA f h)) = _
 rw [hh]
 unfold aslice
 rw [he]
 obtain ⟨j, hj⟩ := Option.isSome_iff_exists.1 hj
 simp only [hj]
 rfl
theorem und_il : Try.prog.underlying 26 = some (.slice 3) := by kernel_rfl
theorem inf_int : (Try.prog.info? 3).isSome = true := by kernel_rfl
abbrev LkF (n n4 n8 nn y q : Nat) (v tq : Int) (u : List Int) (p : Option Addr) (R : List CA) (f : Fr) : Prop := f 1 = .int .i64 v ∧ f 4 = .pointer (some ⟨n, 0, none⟩) ∧ f 9 = .pointer (some ⟨n4, 0, none⟩) ∧ f 11 = .pointer (some ⟨nn, 0, none⟩) ∧ f 12 = .slice p R.length R.length ∧ f 14 = .slice (some ⟨y, 0, none⟩) u.length u.length ∧ f 16 = .int .i64 tq ∧ f 62 = .slice (some ⟨n8 + 1, 0, none⟩) 2 2 ∧ f 63 = .int .i64 2 ∧ f 64 = .int .i64 (q : Nat)
set_option maxHeartbeats 64000000 in
theorem looks_gives {vg : Value} {g : Gram} {v ta tb : Int} {n : Nat} {H : Heap} (hw : WF n H) (hg : RG H vg g) (wg : WG g) (hro : AllRO H) :
    Gives Try.prog 4 [vg, .int .i64 v, .int .i64 ta, .int .i64 tb] n H fun w _ _ => w = .bool true := by
  have hg0 := hg
  have hw0 := hw
  obtain ⟨pt, pv, pr, rfl, ht, hvs, hr⟩ := hg
  refine Gives.of orders ok4 (Nat.le_of_ble_eq_true rfl) ?_
  have v1 : ∀ s, vcells (.agg (ccell s).toArray) = ccell s := fun _ => rfl
  have v2 : ∀ s, (ccell s).all one = true := fun _ => rfl
  have v5 : ∀ s, (ccell s).length = 4 := fun _ => rfl
  have v6 : ∀ s, ((ccell s).drop 0).take 4 = ccell s := fun _ => rfl
  have v7 : ∀ s, (ccell s).take 4 = ccell s := fun _ => rfl
  have hs4 : ∀ (a b c d : Value) (x : CA), AM.splice [a, b, c, d] 0 (ccell x) = ccell x := fun _ _ _ _ _ => rfl
  have g2 : ((gcells pt pv pr g).drop 0).take 3 = gcells pt pv pr g := rfl
  have g3 : (gcells pt pv pr g).length = 3 := rfl
  repeat (first | apply WK.seq | apply WK.block | apply WK.skipSeq | apply WK.skipBlock | apply WK.retSeq | apply WK.retBlock | apply WK.exitSeq | apply WK.exitHere | refine WK.exitOn rfl ?_)
  (refine WK.rgn ?_ ?_; kernel_rfl; simp (config := { maxSteps := 1000000 }) only [SS, qx1, forall_const, vun, tap, tap2, tap3, tap4, tsrc, tsrc2, Int.reduceEq, Int.reduceNeg, Nat.reduceGT, Nat.reduceLT, Nat.reduceLeDiff, Nat.reduceEqDiff, ↓reduceIte, reduceCtorEq, Int.reduceToNat, Int.reduceLE, Int.reduceLT, Nat.reduceAdd, Nat.reduceMul, abox, box_cells, box_one, ff_4])
  have k1 := Kp.new n H (.cells (gcells pt pv pr g) 25 true)
  have hG := hset_at H n (.cells (gcells pt pv pr g) 25 true)
  generalize hset H n (.cells (gcells pt pv pr g) 25 true) = H1 at *
  have hw1 := k1.wf hw
  have hg1 : RG H1 (.agg (gcells pt pv pr g).toArray) g := hg0.mono hw k1
  repeat (first | apply WK.seq | apply WK.block | apply WK.skipSeq | apply WK.skipBlock | apply WK.retSeq | apply WK.retBlock | apply WK.exitSeq | apply WK.exitHere | refine WK.exitOn rfl ?_ | ((first | (refine WK.rgn ?_ ?_; kernel_rfl) | refine AtCall.now ?_); simp (config := { maxSteps := 1000000 }) only [SS, qx1, forall_const, vun, tap, tap2, tap3, tap4, tsrc, tsrc2, Int.reduceEq, Int.reduceNeg, Nat.reduceGT, Nat.reduceLT, Nat.reduceLeDiff, Nat.reduceEqDiff, ↓reduceIte, reduceCtorEq, Int.reduceToNat, Int.reduceLE, Int.reduceLT, Nat.reduceAdd, Nat.reduceMul, ff_4]) | (refine WK.condT ?_ ?_; focus (simp only [ev_tmp, ev_const, fset_apply, Nat.reduceEqDiff, ↓reduceIte, decide_true, decide_false, ff_4]; done)) | (refine WK.condF ?_ ?_; focus (simp only [ev_tmp, ev_const, fset_apply, Nat.reduceEqDiff, ↓reduceIte, decide_true, decide_false, ff_4]; done)))
  refine AtCall.by (alive_gives _ _) ?_
  rintro _ n2 H2 k2 ⟨rfl, hn2, hH2⟩
  subst hn2
  obtain rfl := hH2.symm
  simp (config := { maxSteps := 1000000 }) only [SS, qx1, forall_const, vun, tap, tap2, tap3, tap4, tsrc, tsrc2, Int.reduceEq, Int.reduceNeg, Nat.reduceGT, Nat.reduceLT, Nat.reduceLeDiff, Nat.reduceEqDiff, ↓reduceIte, reduceCtorEq, Int.reduceToNat, Int.reduceLE, Int.reduceLT, Nat.reduceAdd, Nat.reduceMul, ff_4]
  repeat (first | apply WK.seq | apply WK.block | apply WK.skipSeq | apply WK.skipBlock | apply WK.retSeq | apply WK.retBlock | apply WK.exitSeq | apply WK.exitHere | refine WK.exitOn rfl ?_ | ((first | (refine WK.rgn ?_ ?_; kernel_rfl) | refine AtCall.now ?_); simp (config := { maxSteps := 1000000 }) only [SS, qx1, forall_const, vun, tap, tap2, tap3, tap4, tsrc, tsrc2, Int.reduceEq, Int.reduceNeg, Nat.reduceGT, Nat.reduceLT, Nat.reduceLeDiff, Nat.reduceEqDiff, ↓reduceIte, reduceCtorEq, Int.reduceToNat, Int.reduceLE, Int.reduceLT, Nat.reduceAdd, Nat.reduceMul, hG, g2, g3, ff_4]) | (refine WK.condT ?_ ?_; focus (simp only [ev_tmp, ev_const, fset_apply, Nat.reduceEqDiff, ↓reduceIte, decide_true, decide_false, hG, g2, g3, ff_4]; done)) | (refine WK.condF ?_ ?_; focus (simp only [ev_tmp, ev_const, fset_apply, Nat.reduceEqDiff, ↓reduceIte, decide_true, decide_false, hG, g2, g3, ff_4]; done)))
  refine AtCall.by (whole12_gives hw1 hg1 wg) ?_
  rintro _ n3 H3 k3 ⟨t, rfl, ht0⟩
  have hw3 := k3.wf hw1
  have hle3 := k3.le
  have k13 := k1.trans k3
  have hG3 := (k3.keep n (by omega)).trans hG
  have hg3' := hg0.mono hw k13
  rcases ht0 with rfl | ⟨rfl, okx, hfew, hall⟩
  · simp (config := { maxSteps := 1000000 }) only [SS, qx1, forall_const, vun, tap, tap2, tap3, tap4, tsrc, tsrc2, Int.reduceEq, Int.reduceNeg, Nat.reduceGT, Nat.reduceLT, Nat.reduceLeDiff, Nat.reduceEqDiff, ↓reduceIte, reduceCtorEq, Int.reduceToNat, Int.reduceLE, Int.reduceLT, Nat.reduceAdd, Nat.reduceMul, decide_true, ff_4]
    repeat (first | apply WK.seq | apply WK.block | apply WK.skipSeq | apply WK.skipBlock | apply WK.retSeq | apply WK.retBlock | apply WK.exitSeq | apply WK.exitHere | refine WK.exitOn rfl ?_ | ((first | (refine WK.rgn ?_ ?_; kernel_rfl) | refine AtCall.now ?_); simp (config := { maxSteps := 1000000 }) only [SS, qx1, forall_const, vun, tap, tap2, tap3, tap4, tsrc, tsrc2, Int.reduceEq, Int.reduceNeg, Nat.reduceGT, Nat.reduceLT, Nat.reduceLeDiff, Nat.reduceEqDiff, ↓reduceIte, reduceCtorEq, Int.reduceToNat, Int.reduceLE, Int.reduceLT, Nat.reduceAdd, Nat.reduceMul, ff_4]) | (refine WK.condT ?_ ?_; focus (simp only [ev_tmp, ev_const, fset_apply, Nat.reduceEqDiff, ↓reduceIte, decide_true, decide_false, ff_4]; done)) | (refine WK.condF ?_ ?_; focus (simp only [ev_tmp, ev_const, fset_apply, Nat.reduceEqDiff, ↓reduceIte, decide_true, decide_false, ff_4]; done)))
    (first | refine WK.retNil ⟨Or.inr rfl, _, rfl, ?_, ?_⟩ | refine WK.skipNil ⟨Or.inl rfl, _, rfl, ?_, ?_⟩)
    · exact k13.keep
    · simp only [packed, fset_apply, Nat.reduceEqDiff, ↓reduceIte, List.getD_cons_zero, List.getD_cons_succ, ff_4]
  have ok := okx.toRightOK
  have hi := ok.inG
  unfold few at hfew
  simp only [Bool.and_eq_true, decide_eq_true_eq, List.all_eq_true] at hfew
  obtain ⟨⟨⟨fw1, fw2⟩, fw3⟩, fw4⟩ := hfew
  have hgl : g.terms.length ≤ 64 ∧ g.vars.length ≤ 64 := ⟨by omega, by omega⟩
  have hlen : ∀ r ∈ g.rules, r.right.length ≤ 24 := fun r hr => by have := fw4 r hr; omega
  have h10 : ((1 : Int) = 0) = False := eq_false (by decide)
  by_cases hv0 : v < 0
  · have hv0' : (v < 0) = True := eq_true hv0
    simp (config := { maxSteps := 1000000 }) only [SS, qx1, forall_const, vun, tap, tap2, tap3, tap4, tsrc, tsrc2, Int.reduceEq, Int.reduceNeg, Nat.reduceGT, Nat.reduceLT, Nat.reduceLeDiff, Nat.reduceEqDiff, ↓reduceIte, reduceCtorEq, Int.reduceToNat, Int.reduceLE, Int.reduceLT, Nat.reduceAdd, Nat.reduceMul, h10, hv0', decide_true, decide_false, ff_4]
    repeat (first | apply WK.seq | apply WK.block | apply WK.skipSeq | apply WK.skipBlock | apply WK.retSeq | apply WK.retBlock | apply WK.exitSeq | apply WK.exitHere | refine WK.exitOn rfl ?_ | ((first | (refine WK.rgn ?_ ?_; kernel_rfl) | refine AtCall.now ?_); simp (config := { maxSteps := 1000000 }) only [SS, qx1, forall_const, vun, tap, tap2, tap3, tap4, tsrc, tsrc2, Int.reduceEq, Int.reduceNeg, Nat.reduceGT, Nat.reduceLT, Nat.reduceLeDiff, Nat.reduceEqDiff, ↓reduceIte, reduceCtorEq, Int.reduceToNat, Int.reduceLE, Int.reduceLT, Nat.reduceAdd, Nat.reduceMul, ff_4]) | (refine WK.condT ?_ ?_; focus (simp only [ev_tmp, ev_const, fset_apply, Nat.reduceEqDiff, ↓reduceIte, decide_true, decide_false, ff_4]; done)) | (refine WK.condF ?_ ?_; focus (simp only [ev_tmp, ev_const, fset_apply, Nat.reduceEqDiff, ↓reduceIte, decide_true, decide_false, ff_4]; done)))
    (first | refine WK.retNil ⟨Or.inr rfl, _, rfl, ?_, ?_⟩ | refine WK.skipNil ⟨Or.inl rfl, _, rfl, ?_, ?_⟩)
    · exact k13.keep
    · simp only [packed, fset_apply, Nat.reduceEqDiff, ↓reduceIte, List.getD_cons_zero, List.getD_cons_succ, ff_4]
  have hv0' : (v < 0) = False := eq_false hv0
  by_cases hv1 : (g.vars.length : Int) ≤ v
  · have hv1' : ((g.vars.length : Int) ≤ v) = True := eq_true hv1
    simp (config := { maxSteps := 1000000 }) only [SS, qx1, forall_const, vun, tap, tap2, tap3, tap4, tsrc, tsrc2, Int.reduceEq, Int.reduceNeg, Nat.reduceGT, Nat.reduceLT, Nat.reduceLeDiff, Nat.reduceEqDiff, ↓reduceIte, reduceCtorEq, Int.reduceToNat, Int.reduceLE, Int.reduceLT, Nat.reduceAdd, Nat.reduceMul, h10, hv0', hv1', hG3, gc_1, decide_true, decide_false, ff_4]
    repeat (first | apply WK.seq | apply WK.block | apply WK.skipSeq | apply WK.skipBlock | apply WK.retSeq | apply WK.retBlock | apply WK.exitSeq | apply WK.exitHere | refine WK.exitOn rfl ?_ | ((first | (refine WK.rgn ?_ ?_; kernel_rfl) | refine AtCall.now ?_); simp (config := { maxSteps := 1000000 }) only [SS, qx1, forall_const, vun, tap, tap2, tap3, tap4, tsrc, tsrc2, Int.reduceEq, Int.reduceNeg, Nat.reduceGT, Nat.reduceLT, Nat.reduceLeDiff, Nat.reduceEqDiff, ↓reduceIte, reduceCtorEq, Int.reduceToNat, Int.reduceLE, Int.reduceLT, Nat.reduceAdd, Nat.reduceMul, ff_4]) | (refine WK.condT ?_ ?_; focus (simp only [ev_tmp, ev_const, fset_apply, Nat.reduceEqDiff, ↓reduceIte, decide_true, decide_false, ff_4]; done)) | (refine WK.condF ?_ ?_; focus (simp only [ev_tmp, ev_const, fset_apply, Nat.reduceEqDiff, ↓reduceIte, decide_true, decide_false, ff_4]; done)))
    (first | refine WK.retNil ⟨Or.inr rfl, _, rfl, ?_, ?_⟩ | refine WK.skipNil ⟨Or.inl rfl, _, rfl, ?_, ?_⟩)
    · exact k13.keep
    · simp only [packed, fset_apply, Nat.reduceEqDiff, ↓reduceIte, List.getD_cons_zero, List.getD_cons_succ, ff_4]
  have hv1' : ((g.vars.length : Int) ≤ v) = False := eq_false hv1
  simp (config := { maxSteps := 1000000 }) only [SS, qx1, forall_const, vun, tap, tap2, tap3, tap4, tsrc, tsrc2, Int.reduceEq, Int.reduceNeg, Nat.reduceGT, Nat.reduceLT, Nat.reduceLeDiff, Nat.reduceEqDiff, ↓reduceIte, reduceCtorEq, Int.reduceToNat, Int.reduceLE, Int.reduceLT, Nat.reduceAdd, Nat.reduceMul, h10, hv0', hv1', hG3, gc_1, decide_false, ff_4]
  repeat (first | apply WK.seq | apply WK.block | apply WK.skipSeq | apply WK.skipBlock | apply WK.retSeq | apply WK.retBlock | apply WK.exitSeq | apply WK.exitHere | refine WK.exitOn rfl ?_)
  first | (refine WK.condT ?_ ?_; focus (simp only [ev_tmp, ev_const, fset_apply, Nat.reduceEqDiff, ↓reduceIte, decide_true, decide_false]; done)) | (refine WK.condF ?_ ?_; focus (simp only [ev_tmp, ev_const, fset_apply, Nat.reduceEqDiff, ↓reduceIte, decide_true, decide_false]; done))
  apply WK.skipSeq; apply WK.seq
  refine WK.frame (fun f => f 1 = .int .i64 v ∧ f 2 = .int .i64 ta ∧ f 3 = .int .i64 tb ∧ f 4 = .pointer (some ⟨n, 0, none⟩)) ⟨rfl, rfl, rfl, rfl⟩ ?_
  rintro f ⟨f1, f2, f3, f4⟩
  repeat (first | apply WK.seq | apply WK.block | apply WK.skipSeq | apply WK.skipBlock | apply WK.retSeq | apply WK.retBlock | apply WK.exitSeq | apply WK.exitHere | refine WK.exitOn rfl ?_ | ((first | (refine WK.rgn ?_ ?_; kernel_rfl) | refine AtCall.now ?_); simp (config := { maxSteps := 1000000 }) only [SS, qx1, forall_const, vun, tap, tap2, tap3, tap4, tsrc, tsrc2, Int.reduceEq, Int.reduceNeg, Nat.reduceGT, Nat.reduceLT, Nat.reduceLeDiff, Nat.reduceEqDiff, ↓reduceIte, reduceCtorEq, Int.reduceToNat, Int.reduceLE, Int.reduceLT, Nat.reduceAdd, Nat.reduceMul, f4, hG3, g2, g3, ff_4]) | (refine WK.condT ?_ ?_; focus (simp only [ev_tmp, ev_const, fset_apply, Nat.reduceEqDiff, ↓reduceIte, decide_true, decide_false, f4, hG3, g2, g3, ff_4]; done)) | (refine WK.condF ?_ ?_; focus (simp only [ev_tmp, ev_const, fset_apply, Nat.reduceEqDiff, ↓reduceIte, decide_true, decide_false, f4, hG3, g2, g3, ff_4]; done)))
  refine AtCall.by (of10_gives (most := 120) hw0 hro hg0 k13 ok fw1 fw2 fw3 fw4 (by omega)) ?_
  rintro _ n4 H4 k4 hq
  have hw4 := k4.wf hw3
  have hle4 := k4.le
  have k14 := k13.trans k4
  have hG4 := (k4.keep n (by omega)).trans hG3
  have hsp : ∀ (a b c x y z : Value), AM.splice [a, b, c] 0 [x, y, z] = [x, y, z] := fun _ _ _ _ _ _ => rfl
  rcases hq with ⟨pF, pO, rfl⟩ | ⟨yF, yO, Fs, Os, rfl, hFs, hOs, hFl, hOl, hS, hC⟩
  · unfold sagg
    simp (config := { maxSteps := 1000000 }) only [SS, qx1, forall_const, vun, tap, tap2, tap3, tap4, tsrc, tsrc2, Int.reduceEq, Int.reduceNeg, Nat.reduceGT, Nat.reduceLT, Nat.reduceLeDiff, Nat.reduceEqDiff, ↓reduceIte, reduceCtorEq, Int.reduceToNat, Int.reduceLE, Int.reduceLT, Nat.reduceAdd, Nat.reduceMul, List.toList_toArray, hsp, abox, one, ff_4]
    repeat (first | apply WK.seq | apply WK.block | apply WK.skipSeq | apply WK.skipBlock | apply WK.retSeq | apply WK.retBlock | apply WK.exitSeq | apply WK.exitHere | refine WK.exitOn rfl ?_ | ((first | (refine WK.rgn ?_ ?_; kernel_rfl) | refine AtCall.now ?_); simp (config := { maxSteps := 1000000 }) only [SS, qx1, forall_const, vun, tap, tap2, tap3, tap4, tsrc, tsrc2, Int.reduceEq, Int.reduceNeg, Nat.reduceGT, Nat.reduceLT, Nat.reduceLeDiff, Nat.reduceEqDiff, ↓reduceIte, reduceCtorEq, Int.reduceToNat, Int.reduceLE, Int.reduceLT, Nat.reduceAdd, Nat.reduceMul, ff_4]) | (refine WK.condT ?_ ?_; focus (simp only [ev_tmp, ev_const, fset_apply, Nat.reduceEqDiff, ↓reduceIte, decide_true, decide_false, ff_4]; done)) | (refine WK.condF ?_ ?_; focus (simp only [ev_tmp, ev_const, fset_apply, Nat.reduceEqDiff, ↓reduceIte, decide_true, decide_false, ff_4]; done)))
    (first | refine WK.retNil ⟨Or.inr rfl, _, rfl, ?_, ?_⟩ | refine WK.skipNil ⟨Or.inl rfl, _, rfl, ?_, ?_⟩)
    · intro z hz
      exact (hset_ne _ _ _ (by omega)).trans (k14.keep z hz)
    · simp only [packed, fset_apply, Nat.reduceEqDiff, ↓reduceIte, List.getD_cons_zero, List.getD_cons_succ, ff_4]
  unfold sagg
  simp (config := { maxSteps := 1000000 }) only [SS, qx1, forall_const, vun, tap, tap2, tap3, tap4, tsrc, tsrc2, Int.reduceEq, Int.reduceNeg, Nat.reduceGT, Nat.reduceLT, Nat.reduceLeDiff, Nat.reduceEqDiff, ↓reduceIte, reduceCtorEq, Int.reduceToNat, Int.reduceLE, Int.reduceLT, Nat.reduceAdd, Nat.reduceMul, List.toList_toArray, hsp, abox, one, ff_4]
  have kS := Kp.new n4 H4 (.cells [.int .i64 2, .slice (some ⟨yF, 0, none⟩) g.vars.length g.vars.length, .slice (some ⟨yO, 0, none⟩) g.vars.length g.vars.length] 60 true)
  have hSb := hset_at H4 n4 (.cells [.int .i64 2, .slice (some ⟨yF, 0, none⟩) g.vars.length g.vars.length, .slice (some ⟨yO, 0, none⟩) g.vars.length g.vars.length] 60 true)
  generalize hset H4 n4 (.cells [.int .i64 2, .slice (some ⟨yF, 0, none⟩) g.vars.length g.vars.length, .slice (some ⟨yO, 0, none⟩) g.vars.length g.vars.length] 60 true) = H5 at *
  have hw5 := kS.wf hw4
  have k15 := k14.trans kS
  have hG5 := (kS.keep n (by omega)).trans hG4
  have hFs5 := hFs.mono hw4 kS
  have hOs5 := hOs.mono hw4 kS
  refine WK.frame (fun f => f 1 = .int .i64 v ∧ f 2 = .int .i64 ta ∧ f 3 = .int .i64 tb ∧ f 4 = .pointer (some ⟨n, 0, none⟩) ∧ f 9 = .pointer (some ⟨n4, 0, none⟩) ∧ f 10 = .bool true) ⟨f1, f2, f3, f4, rfl, rfl⟩ ?_
  clear f1 f2 f3 f4 f
  rintro f ⟨f1, f2, f3, f4, f9, f10⟩
  repeat (first | apply WK.seq | apply WK.block | apply WK.skipSeq | apply WK.skipBlock | apply WK.retSeq | apply WK.retBlock | apply WK.exitSeq | apply WK.exitHere | refine WK.exitOn rfl ?_ | ((first | (refine WK.rgn ?_ ?_; kernel_rfl) | refine AtCall.now ?_); simp (config := { maxSteps := 1000000 }) only [SS, qx1, forall_const, vun, tap, tap2, tap3, tap4, tsrc, tsrc2, Int.reduceEq, Int.reduceNeg, Nat.reduceGT, Nat.reduceLT, Nat.reduceLeDiff, Nat.reduceEqDiff, ↓reduceIte, reduceCtorEq, Int.reduceToNat, Int.reduceLE, Int.reduceLT, Nat.reduceAdd, Nat.reduceMul, f4, f10, hG5, g2, g3, ff_4]) | (refine WK.condT ?_ ?_; focus (simp only [ev_tmp, ev_const, fset_apply, Nat.reduceEqDiff, ↓reduceIte, decide_true, decide_false, f4, f10, hG5, g2, g3, ff_4]; done)) | (refine WK.condF ?_ ?_; focus (simp only [ev_tmp, ev_const, fset_apply, Nat.reduceEqDiff, ↓reduceIte, decide_true, decide_false, f4, f10, hG5, g2, g3, ff_4]; done)))
  refine AtCall.by (new_gives hw5 (hg0.mono hw k15) wg ok) ?_
  rintro _ n6 H6 k6 ⟨nn, ot, ov, or1, cc, cl, rfl, ne, hcl⟩
  have hw6 := k6.wf hw5
  have hle6 := k6.le
  have hclV : ∀ x ∈ callsL g, ∀ s ∈ x, VS g s := by
    rw [← hcl]
    intro x hx
    obtain ⟨y, hy, rfl⟩ := List.mem_map.1 hx
    exact ne.ok y hy
  simp (config := { maxSteps := 1000000 }) only [SS, qx1, forall_const, vun, tap, tap2, tap3, tap4, tsrc, tsrc2, Int.reduceEq, Int.reduceNeg, Nat.reduceGT, Nat.reduceLT, Nat.reduceLeDiff, Nat.reduceEqDiff, ↓reduceIte, reduceCtorEq, Int.reduceToNat, Int.reduceLE, Int.reduceLT, Nat.reduceAdd, Nat.reduceMul, ff_4]
  repeat (first | apply WK.seq | apply WK.block | apply WK.skipSeq | apply WK.skipBlock | apply WK.retSeq | apply WK.retBlock | apply WK.exitSeq | apply WK.exitHere | refine WK.exitOn rfl ?_ | ((first | (refine WK.rgn ?_ ?_; kernel_rfl) | refine AtCall.now ?_); simp (config := { maxSteps := 1000000 }) only [SS, qx1, forall_const, vun, tap, tap2, tap3, tap4, tsrc, tsrc2, Int.reduceEq, Int.reduceNeg, Nat.reduceGT, Nat.reduceLT, Nat.reduceLeDiff, Nat.reduceEqDiff, ↓reduceIte, reduceCtorEq, Int.reduceToNat, Int.reduceLE, Int.reduceLT, Nat.reduceAdd, Nat.reduceMul, f1, ff_4]) | (refine WK.condT ?_ ?_; focus (simp only [ev_tmp, ev_const, fset_apply, Nat.reduceEqDiff, ↓reduceIte, decide_true, decide_false, f1, ff_4]; done)) | (refine WK.condF ?_ ?_; focus (simp only [ev_tmp, ev_const, fset_apply, Nat.reduceEqDiff, ↓reduceIte, decide_true, decide_false, f1, ff_4]; done)))
  refine AtCall.by (start_gives hw6 ne ok) ?_
  rintro _ n7 H7 k7 ⟨p7, rfl, hp7⟩
  have hw7 := k7.wf hw6
  have hle7 := k7.le
  have ne7 := ne.mono hw6 k7
  have s1 := startL_mem g v
  have s2 := Nat.le_trans (startL_len g v) fw3
  simp (config := { maxSteps := 1000000 }) only [SS, qx1, forall_const, vun, tap, tap2, tap3, tap4, tsrc, tsrc2, Int.reduceEq, Int.reduceNeg, Nat.reduceGT, Nat.reduceLT, Nat.reduceLeDiff, Nat.reduceEqDiff, ↓reduceIte, reduceCtorEq, Int.reduceToNat, Int.reduceLE, Int.reduceLT, Nat.reduceAdd, Nat.reduceMul, ff_4]
  refine AtCall.by (close_gives (deep := 8) (most := 200) hw7 ne7 ok hgl hlen hp7 (fun z hz => ⟨.inl ⟨(s1 z hz).1, (s1 z hz).2.1⟩, fun z' k e => by rw [(s1 z hz).1] at e; cases e⟩) (fun z hz => (s1 z hz).2.2) (by omega) (by omega) (by omega) (fun z hz => by rw [(s1 z hz).2.1]; exact Nat.zero_le _)) ?_
  rintro va n8 H8 k8 ⟨b, S, hclo, hres⟩
  rw [hcl] at hclo
  have hw8 := k8.wf hw7
  have hle8 := k8.le
  have hcl1 : ∃ p R, va = .tuple #[.slice p R.length R.length, .bool b] ∧ (b = true → LSt g v [] H8 p R) := by
    rcases hres with ⟨rfl, rfl⟩ | ⟨rfl, hS, hSm, hSd, hSg, pR, R, hR, rfl, hpR, hxR⟩
    · exact ⟨none, [], rfl, fun h => by cases h⟩
    · exact ⟨pR, R, rfl, fun _ => LSt.of (bh_start ok) hclo hS hSm hSd hSg hR hpR hxR⟩
  obtain ⟨p, R, rfl, hLS⟩ := hcl1
  clear hres hclo
  simp (config := { maxSteps := 1000000 }) only [SS, qx1, forall_const, vun, tap, tap2, tap3, tap4, tsrc, tsrc2, Int.reduceEq, Int.reduceNeg, Nat.reduceGT, Nat.reduceLT, Nat.reduceLeDiff, Nat.reduceEqDiff, ↓reduceIte, reduceCtorEq, Int.reduceToNat, Int.reduceLE, Int.reduceLT, Nat.reduceAdd, Nat.reduceMul, List.toList_toArray, ff_4]
  refine WK.frame (fun f => f 1 = .int .i64 v ∧ f 2 = .int .i64 ta ∧ f 3 = .int .i64 tb ∧ f 4 = .pointer (some ⟨n, 0, none⟩) ∧ f 9 = .pointer (some ⟨n4, 0, none⟩) ∧ f 11 = .pointer (some ⟨nn, 0, none⟩) ∧ f 12 = .slice p R.length R.length ∧ f 13 = .bool b) ⟨f1, f2, f3, f4, f9, rfl, rfl, rfl⟩ ?_
  clear f1 f2 f3 f4 f9 f10 f
  rintro f ⟨f1, f2, f3, f4, f9, f11, f12, f13⟩
  have k58 := k6.trans (k7.trans k8)
  have k18 := k15.trans k58
  have hG8 := (k58.keep n (by omega)).trans hG5
  have hSb8 := (k58.keep n4 (by omega)).trans hSb
  have ne8 := ne7.mono hw7 k8
  have hF8 := hFs5.mono hw5 k58
  have hO8 := hOs5.mono hw5 k58
  have hG8' := hg0.mono hw k18
  clear hFs hOs hFs5 hOs5 kS hSb hG5 hG4 hG3 hG ne7 ne hp7 k58 k6 k7 k8 k15 k14 k13 k4 k3 k1 hw1 hw3 hw4 hw5 hw6 hw7 hg1 hg3'
  have rp : ∀ x y : Value, ((rep 2 [Value.int .i64 (Int.ofNat 0)]).set 0 x).set 1 y = [x, y] := fun _ _ => rfl
  repeat (first | apply WK.seq | apply WK.block | apply WK.skipSeq | apply WK.skipBlock | apply WK.retSeq | apply WK.retBlock | apply WK.exitSeq | apply WK.exitHere | refine WK.exitOn rfl ?_ | ((first | (refine WK.rgn ?_ ?_; kernel_rfl) | refine AtCall.now ?_); simp (config := { maxSteps := 1000000 }) only [SS, qx1, forall_const, vun, tap, tap2, tap3, tap4, tsrc, tsrc2, Int.reduceEq, Int.reduceNeg, Nat.reduceGT, Nat.reduceLT, Nat.reduceLeDiff, Nat.reduceEqDiff, ↓reduceIte, reduceCtorEq, Int.reduceToNat, Int.reduceLE, Int.reduceLT, Nat.reduceAdd, Nat.reduceMul, f2, f3, rp, ff_4]) | (refine WK.condT ?_ ?_; focus (simp only [ev_tmp, ev_const, fset_apply, Nat.reduceEqDiff, ↓reduceIte, decide_true, decide_false, f2, f3, rp, ff_4]; done)) | (refine WK.condF ?_ ?_; focus (simp only [ev_tmp, ev_const, fset_apply, Nat.reduceEqDiff, ↓reduceIte, decide_true, decide_false, f2, f3, rp, ff_4]; done)))
  have kW := (Kp.new n8 H8 (.cells [] 3 true)).trans (Kp.new (n8 + 1) _ (.cells [.int .i64 ta, .int .i64 tb] 3 true))
  have hWy : (hset (hset H8 n8 (.cells [] 3 true)) (n8 + 1) (.cells [.int .i64 ta, .int .i64 tb] 3 true)) n8 = .cells [] 3 true := (hset_ne _ _ _ (by omega)).trans (hset_at _ _ _)
  have hWt : (hset (hset H8 n8 (.cells [] 3 true)) (n8 + 1) (.cells [.int .i64 ta, .int .i64 tb] 3 true)) (n8 + 1) = .cells [.int .i64 ta, .int .i64 tb] 3 true := hset_at _ _ _
  refine WK.loop (fun kk s => ∃ (q : Nat) (u : List Int) (y : Nat) (b : Bool) (p : Option Addr) (R : List CA), Kp n8 H8 s.n s.H ∧ s.f 1 = .int .i64 v ∧ s.f 4 = .pointer (some ⟨n, 0, none⟩) ∧ s.f 9 = .pointer (some ⟨n4, 0, none⟩) ∧ s.f 11 = .pointer (some ⟨nn, 0, none⟩) ∧ s.f 12 = .slice p R.length R.length ∧ s.f 13 = .bool b ∧ s.f 14 = .slice (some ⟨y, 0, none⟩) u.length u.length ∧ s.f 62 = .slice (some ⟨n8 + 1, 0, none⟩) 2 2 ∧ s.f 63 = .int .i64 2 ∧ s.f 64 = .int .i64 (q : Nat) ∧
      q ≤ 2 ∧ u.length = q ∧ n8 ≤ y ∧ y < s.n ∧ y ≠ n8 + 1 ∧ n8 + 1 < s.n ∧ s.H y = .cells (u.map (Value.int .i64)) 3 true ∧ s.H (n8 + 1) = .cells [.int .i64 ta, .int .i64 tb] 3 true ∧ (b = true → LSt g v u s.H p R) ∧ kk = 2 - q) 2 ?_ ?_
  · exact ⟨0, [], n8, b, p, R, kW, f1, f4, f9, f11, f12, f13, rfl, rfl, rfl, rfl, by omega, rfl, Nat.le_refl _, by show n8 < n8 + 1 + 1; omega, by omega, by show n8 + 1 < n8 + 1 + 1; omega, hWy, hWt, fun h => (hLS h).mono hw8 kW, rfl⟩
  clear f1 f2 f3 f4 f9 f11 f12 f13 kW hWy hWt hLS b p R f
  rintro kk ⟨f, n9, H9⟩ ⟨q, u, y, b, p, R, k9, f1, f4, f9, f11, f12, f13, f14, f62, f63, f64, hq2, huq, hy0, hyn, hyt, htn, hyc, htc, hLS, rfl⟩ ih
  simp only at k9 f1 f4 f9 f11 f12 f13 f14 f62 f63 f64 hyn htn hyc htc hLS ih
  have hw9 := k9.wf hw8
  have hle9 := k9.le
  by_cases hlq : q < 2
  case neg =>
    have hlq' : ((q : Int) < 2) = False := eq_false (by omega)
    repeat (first | apply WK.seq | apply WK.block | apply WK.skipSeq | apply WK.skipBlock | apply WK.retSeq | apply WK.retBlock | apply WK.exitSeq | apply WK.exitHere | refine WK.exitOn rfl ?_ | ((first | (refine WK.rgn ?_ ?_; kernel_rfl) | refine AtCall.now ?_); simp (config := { maxSteps := 1000000 }) only [SS, qx1, forall_const, vun, tap, tap2, tap3, tap4, tsrc, tsrc2, Int.reduceEq, Int.reduceNeg, Nat.reduceGT, Nat.reduceLT, Nat.reduceLeDiff, Nat.reduceEqDiff, ↓reduceIte, reduceCtorEq, Int.reduceToNat, Int.reduceLE, Int.reduceLT, Nat.reduceAdd, Nat.reduceMul, f62, f63, f64, hlq', ff_4]) | (refine WK.condT ?_ ?_; focus (simp only [ev_tmp, ev_const, fset_apply, Nat.reduceEqDiff, ↓reduceIte, decide_true, decide_false, f62, f63, f64, hlq', ff_4]; done)) | (refine WK.condF ?_ ?_; focus (simp only [ev_tmp, ev_const, fset_apply, Nat.reduceEqDiff, ↓reduceIte, decide_true, decide_false, f62, f63, f64, hlq', ff_4]; done)))
    (first | refine WK.retNil ⟨Or.inr rfl, _, rfl, ?_, ?_⟩ | refine WK.skipNil ⟨Or.inl rfl, _, rfl, ?_, ?_⟩)
    · exact (k18.trans k9).keep
    · simp only [packed, fset_apply, Nat.reduceEqDiff, ↓reduceIte, List.getD_cons_zero, List.getD_cons_succ, ff_4]
  have hqw : IntKind.i64.wrap ((q : Int) + 1) = ((q + 1 : Nat) : Int) := by rw [wrap_in (by omega) (by omega)]; rfl
  obtain ⟨tq, htq⟩ : ∃ tq : Int, [Value.int .i64 ta, Value.int .i64 tb][q]? = some (.int .i64 tq) := by
    rcases (by omega : q = 0 ∨ q = 1) with rfl | rfl
    · exact ⟨ta, rfl⟩
    · exact ⟨tb, rfl⟩
  have hlq' : ((q : Int) < 2) = True := eq_true (by omega)
  cases b with
  | false =>
    repeat (first | apply WK.seq | apply WK.block | apply WK.skipSeq | apply WK.skipBlock | apply WK.retSeq | apply WK.retBlock | apply WK.exitSeq | apply WK.exitHere | refine WK.exitOn rfl ?_ | ((first | (refine WK.rgn ?_ ?_; kernel_rfl) | refine AtCall.now ?_); simp (config := { maxSteps := 1000000 }) only [SS, qx1, forall_const, vun, tap, tap2, tap3, tap4, tsrc, tsrc2, Int.reduceEq, Int.reduceNeg, Nat.reduceGT, Nat.reduceLT, Nat.reduceLeDiff, Nat.reduceEqDiff, ↓reduceIte, reduceCtorEq, Int.reduceToNat, Int.reduceLE, Int.reduceLT, Nat.reduceAdd, Nat.reduceMul, f13, f62, f63, f64, hlq, hlq', htc, htq, ff_4]) | (refine WK.condT ?_ ?_; focus (simp only [ev_tmp, ev_const, fset_apply, Nat.reduceEqDiff, ↓reduceIte, decide_true, decide_false, f13, f62, f63, f64, hlq, hlq', htc, htq, ff_4]; done)) | (refine WK.condF ?_ ?_; focus (simp only [ev_tmp, ev_const, fset_apply, Nat.reduceEqDiff, ↓reduceIte, decide_true, decide_false, f13, f62, f63, f64, hlq, hlq', htc, htq, ff_4]; done)))
    (first | refine WK.retNil ⟨Or.inr rfl, _, rfl, ?_, ?_⟩ | refine WK.skipNil ⟨Or.inl rfl, _, rfl, ?_, ?_⟩)
    · exact (k18.trans k9).keep
    · simp only [packed, fset_apply, Nat.reduceEqDiff, ↓reduceIte, List.getD_cons_zero, List.getD_cons_succ, ff_4]
  | true =>
    have L := hLS rfl
    clear hLS
    repeat (first | apply WK.seq | apply WK.block | apply WK.skipSeq | apply WK.skipBlock | apply WK.retSeq | apply WK.retBlock | apply WK.exitSeq | apply WK.exitHere | refine WK.exitOn rfl ?_ | ((first | (refine WK.rgn ?_ ?_; kernel_rfl) | refine AtCall.now ?_); simp (config := { maxSteps := 1000000 }) only [SS, qx1, forall_const, vun, tap, tap2, tap3, tap4, tsrc, tsrc2, Int.reduceEq, Int.reduceNeg, Nat.reduceGT, Nat.reduceLT, Nat.reduceLeDiff, Nat.reduceEqDiff, ↓reduceIte, reduceCtorEq, Int.reduceToNat, Int.reduceLE, Int.reduceLT, Nat.reduceAdd, Nat.reduceMul, f12, f13, f62, f63, f64, hlq, hlq', htc, htq, ff_4]) | (refine WK.condT ?_ ?_; focus (simp only [ev_tmp, ev_const, fset_apply, Nat.reduceEqDiff, ↓reduceIte, decide_true, decide_false, f12, f13, f62, f63, f64, hlq, hlq', htc, htq, ff_4]; done)) | (refine WK.condF ?_ ?_; focus (simp only [ev_tmp, ev_const, fset_apply, Nat.reduceEqDiff, ↓reduceIte, decide_true, decide_false, f12, f13, f62, f63, f64, hlq, hlq', htc, htq, ff_4]; done)))
    have kI := Kp.new n9 H9 (.cells [] 47 true)
    have hI := hset_at H9 n9 (.cells [] 47 true)
    generalize hset H9 n9 (.cells [] 47 true) = HI at *
    refine WK.loop (fun kk s => ∃ (j yE : Nat) (E : List CA), Kp n9 H9 s.n s.H ∧ n9 ≤ yE ∧ yE < s.n ∧ s.H yE = .cells (E.flatMap ccell) 47 true ∧ LkF n n4 n8 nn y q v tq u p R s.f ∧ s.f 17 = .slice (some ⟨yE, 0, none⟩) E.length E.length ∧ s.f 71 = .slice p R.length R.length ∧ s.f 72 = .int .i64 (R.length : Nat) ∧ s.f 73 = .int .i64 (j : Nat) ∧ j ≤ R.length ∧ E = (R.take j).filter (fun x => decide (nextL g x.1 = -1)) ∧ kk = R.length - j) R.length ?_ ?_
    · exact ⟨0, n9, [], kI, Nat.le_refl _, Nat.lt_succ_self _, hI, ⟨f1, f4, f9, f11, f12, f14, rfl, f62, f63, f64⟩, rfl, rfl, rfl, rfl, Nat.zero_le _, rfl, rfl⟩
    clear f1 f4 f9 f11 f12 f13 f14 f62 f63 f64 kI hI HI f
    rintro kk ⟨f, n10, H10⟩ ⟨j, yE, E, k10, hyE0, hyEn, hyE, ⟨f1, f4, f9, f11, f12, f14, f16, f62, f63, f64⟩, f17, f71, f72, f73, hjl, hE, rfl⟩ ihe
    simp only at k10 hyEn hyE f1 f4 f9 f11 f12 f14 f16 f62 f63 f64 f17 f71 f72 f73 ihe
    have hw10 := k10.wf hw9
    have hle10 := k10.le
    have hRl := L.len
    have hEl : E.length ≤ 200 := by rw [hE]; exact Nat.le_trans (List.length_filter_le _ _) (by rw [List.length_take]; omega)
    by_cases hj : j < R.length
    case pos =>
      have hjw : IntKind.i64.wrap ((j : Int) + 1) = ((j + 1 : Nat) : Int) := by rw [wrap_in (by omega) (by omega)]; rfl
      have hmem := List.getElem_mem hj
      obtain ⟨u2, k02, cs2, ty2, own2, z1, z2, z3, z4⟩ := (L.row.mono hw9 k10).at ccell_len hj
      have kn := Kp.new n10 H10 (.cells (ccell R[j]) 47 true)
      have hnn := hset_at H10 n10 (.cells (ccell R[j]) 47 true)
      repeat (first | apply WK.seq | apply WK.block | apply WK.skipSeq | apply WK.skipBlock | apply WK.retSeq | apply WK.retBlock | apply WK.exitSeq | apply WK.exitHere | refine WK.exitOn rfl ?_ | ((first | (refine WK.rgn ?_ ?_; kernel_rfl) | refine AtCall.now ?_); simp (config := { maxSteps := 1000000 }) only [SS, qx1, forall_const, vun, tap, tap2, tap3, tap4, tsrc, tsrc2, Int.reduceEq, Int.reduceNeg, Nat.reduceGT, Nat.reduceLT, Nat.reduceLeDiff, Nat.reduceEqDiff, ↓reduceIte, reduceCtorEq, Int.reduceToNat, Int.reduceLE, Int.reduceLT, Nat.reduceAdd, Nat.reduceMul, f71, f72, f73, hj, z1, z2, z3, z4, v1, v2, v5, v6, f11, hs4, hset_at, ff_4]) | (refine WK.condT ?_ ?_; focus (simp only [ev_tmp, ev_const, fset_apply, Nat.reduceEqDiff, ↓reduceIte, decide_true, decide_false, f71, f72, f73, hj, z1, z2, z3, z4, v1, v2, v5, v6, f11, hs4, hset_at, ff_4]; done)) | (refine WK.condF ?_ ?_; focus (simp only [ev_tmp, ev_const, fset_apply, Nat.reduceEqDiff, ↓reduceIte, decide_true, decide_false, f71, f72, f73, hj, z1, z2, z3, z4, v1, v2, v5, v6, f11, hs4, hset_at, ff_4]; done)))
      generalize hset H10 n10 (.cells (ccell R[j]) 47 true) = H11 at *
      have hw11 := kn.wf hw10
      refine AtCall.by (next_gives hw8 (k9.trans (k10.trans kn)) ne8 hi hgl hlen (L.gc _ hmem).1.1 (fun r h0 hr => (L.gc _ hmem).1.2 r h0 hr)) ?_
      rintro _ n12 H12 k12 rfl
      have hnn12 := (k12.keep n10 (Nat.lt_succ_self _)).trans hnn
      have hw12 := k12.wf hw11
      have hle12 := k12.le
      have hyE12 := ((kn.trans k12).keep yE hyEn).trans hyE
      have kA := k10.trans (kn.trans k12)
      have htkE : (R.take (j + 1)).filter (fun x => decide (nextL g x.1 = -1)) = E ++ if nextL g R[j].1 = -1 then [R[j]] else [] := by
        rw [List.take_add_one, List.getElem?_eq_getElem hj, List.filter_append, hE]
        by_cases hc : nextL g R[j].1 = -1 <;> simp [hc]
      by_cases hn1 : nextL g R[j].1 = -1
      · rw [if_pos hn1] at htkE
        have hn1' : (nextL g R[j].1 = -1) = True := eq_true hn1
        have m1 : ∀ A, hset H12 n12 A yE = _ := fun A => (hset_ne _ _ _ (by omega)).trans hyE12
        have bl : E.length + 1 ≤ bigN := by unfold bigN; omega
        have hct : [n12].contains yE = false := by simp; omega
        have hfl : (E.flatMap ccell).length = E.length * 4 := fm_len ccell_len _
        have htk : (E.flatMap ccell).take (E.length * 4) = E.flatMap ccell := List.take_of_length_le (by omega)
        have kB : ∀ A C, Kp n9 H9 (n12 + 1 + 1) (hset (hset (hset H12 n12 A) yE .dead) (n12 + 1) C) := fun A C => ((kA.trans (Kp.new n12 H12 A)).set (x := yE) .dead hyE0 (by omega)).trans (Kp.new (n12 + 1) _ C)
        simp (config := { maxSteps := 1000000 }) only [SS, qx1, forall_const, vun, tap, tap2, tap3, tap4, tsrc, tsrc2, Int.reduceEq, Int.reduceNeg, Nat.reduceGT, Nat.reduceLT, Nat.reduceLeDiff, Nat.reduceEqDiff, ↓reduceIte, reduceCtorEq, Int.reduceToNat, Int.reduceLE, Int.reduceLT, Nat.reduceAdd, Nat.reduceMul, hn1', decide_true, ff_4]
        repeat (first | apply WK.seq | apply WK.block | apply WK.skipSeq | apply WK.skipBlock | apply WK.retSeq | apply WK.retBlock | apply WK.exitSeq | apply WK.exitHere | refine WK.exitOn rfl ?_ | ((first | (refine WK.rgn ?_ ?_; kernel_rfl) | refine AtCall.now ?_); simp (config := { maxSteps := 1000000 }) only [SS, qx1, forall_const, vun, tap, tap2, tap3, tap4, tsrc, tsrc2, Int.reduceEq, Int.reduceNeg, Nat.reduceGT, Nat.reduceLT, Nat.reduceLeDiff, Nat.reduceEqDiff, ↓reduceIte, reduceCtorEq, Int.reduceToNat, Int.reduceLE, Int.reduceLT, Nat.reduceAdd, Nat.reduceMul, f17, f73, hnn12, v1, v2, v5, v6, v7, hs4, hjw, m1, hyE12, bl, hct, hfl, htk, hset_at, Nat.le_refl, List.drop_zero, ff_4]) | (refine WK.condT ?_ ?_; focus (simp only [ev_tmp, ev_const, fset_apply, Nat.reduceEqDiff, ↓reduceIte, decide_true, decide_false, f17, f73, hnn12, v1, v2, v5, v6, v7, hs4, hjw, m1, hyE12, bl, hct, hfl, htk, hset_at, Nat.le_refl, List.drop_zero, ff_4]; done)) | (refine WK.condF ?_ ?_; focus (simp only [ev_tmp, ev_const, fset_apply, Nat.reduceEqDiff, ↓reduceIte, decide_true, decide_false, f17, f73, hnn12, v1, v2, v5, v6, v7, hs4, hjw, m1, hyE12, bl, hct, hfl, htk, hset_at, Nat.le_refl, List.drop_zero, ff_4]; done)))
        refine ihe (R.length - (j + 1)) (by omega) _ ?_
        refine ⟨j + 1, n12 + 1, E ++ [R[j]], kB _ _, by omega, Nat.lt_succ_self _, ?_, ⟨f1, f4, f9, f11, f12, f14, f16, f62, f63, f64⟩, ?_, f71, f72, rfl, hj, htkE.symm, rfl⟩
        · rw [List.flatMap_append, List.flatMap_singleton]; exact hset_at _ _ _
        · rw [List.length_append, List.length_singleton]; rfl
      · rw [if_neg hn1, List.append_nil] at htkE
        have hn1' : (nextL g R[j].1 = -1) = False := eq_false hn1
        simp (config := { maxSteps := 1000000 }) only [SS, qx1, forall_const, vun, tap, tap2, tap3, tap4, tsrc, tsrc2, Int.reduceEq, Int.reduceNeg, Nat.reduceGT, Nat.reduceLT, Nat.reduceLeDiff, Nat.reduceEqDiff, ↓reduceIte, reduceCtorEq, Int.reduceToNat, Int.reduceLE, Int.reduceLT, Nat.reduceAdd, Nat.reduceMul, hn1', decide_false, ff_4]
        repeat (first | apply WK.seq | apply WK.block | apply WK.skipSeq | apply WK.skipBlock | apply WK.retSeq | apply WK.retBlock | apply WK.exitSeq | apply WK.exitHere | refine WK.exitOn rfl ?_ | ((first | (refine WK.rgn ?_ ?_; kernel_rfl) | refine AtCall.now ?_); simp (config := { maxSteps := 1000000 }) only [SS, qx1, forall_const, vun, tap, tap2, tap3, tap4, tsrc, tsrc2, Int.reduceEq, Int.reduceNeg, Nat.reduceGT, Nat.reduceLT, Nat.reduceLeDiff, Nat.reduceEqDiff, ↓reduceIte, reduceCtorEq, Int.reduceToNat, Int.reduceLE, Int.reduceLT, Nat.reduceAdd, Nat.reduceMul, f73, hjw, ff_4]) | (refine WK.condT ?_ ?_; focus (simp only [ev_tmp, ev_const, fset_apply, Nat.reduceEqDiff, ↓reduceIte, decide_true, decide_false, f73, hjw, ff_4]; done)) | (refine WK.condF ?_ ?_; focus (simp only [ev_tmp, ev_const, fset_apply, Nat.reduceEqDiff, ↓reduceIte, decide_true, decide_false, f73, hjw, ff_4]; done)))
        refine ihe (R.length - (j + 1)) (by omega) _ ?_
        exact ⟨j + 1, yE, E, kA, hyE0, by show yE < n12; omega, hyE12, ⟨f1, f4, f9, f11, f12, f14, f16, f62, f63, f64⟩, f17, f71, f72, rfl, hj, htkE.symm, rfl⟩
    obtain rfl : j = R.length := by omega
    rw [List.take_length] at hE
    clear ihe
    have hG10 := ((k9.trans k10).keep n (by omega)).trans hG8
    repeat (first | apply WK.seq | apply WK.block | apply WK.skipSeq | apply WK.skipBlock | apply WK.retSeq | apply WK.retBlock | apply WK.exitSeq | apply WK.exitHere | refine WK.exitOn rfl ?_ | ((first | (refine WK.rgn ?_ ?_; kernel_rfl) | refine AtCall.now ?_); simp (config := { maxSteps := 1000000 }) only [SS, qx1, forall_const, vun, tap, tap2, tap3, tap4, tsrc, tsrc2, Int.reduceEq, Int.reduceNeg, Nat.reduceGT, Nat.reduceLT, Nat.reduceLeDiff, Nat.reduceEqDiff, ↓reduceIte, reduceCtorEq, Int.reduceToNat, Int.reduceLE, Int.reduceLT, Nat.reduceAdd, Nat.reduceMul, f4, f72, f73, hj, hG10, gc_2, ff_4]) | (refine WK.condT ?_ ?_; focus (simp only [ev_tmp, ev_const, fset_apply, Nat.reduceEqDiff, ↓reduceIte, decide_true, decide_false, f4, f72, f73, hj, hG10, gc_2, ff_4]; done)) | (refine WK.condF ?_ ?_; focus (simp only [ev_tmp, ev_const, fset_apply, Nat.reduceEqDiff, ↓reduceIte, decide_true, decide_false, f4, f72, f73, hj, hG10, gc_2, ff_4]; done)))
    refine WK.loop (fun kk s => ∃ i : Nat, Kp n10 H10 s.n s.H ∧ LkF n n4 n8 nn y q v tq u p R s.f ∧ s.f 17 = .slice (some ⟨yE, 0, none⟩) E.length E.length ∧ s.f 87 = .slice pr g.rules.length g.rules.length ∧ s.f 88 = .int .i64 (g.rules.length : Nat) ∧ s.f 89 = .int .i64 (i : Nat) ∧ i ≤ g.rules.length ∧ kk = g.rules.length - i) g.rules.length ?_ ?_
    · exact ⟨0, Kp.refl _ _, ⟨f1, f4, f9, f11, f12, f14, f16, f62, f63, f64⟩, f17, rfl, rfl, rfl, Nat.zero_le _, rfl⟩
    clear f1 f4 f9 f11 f12 f14 f16 f62 f63 f64 f17 f71 f72 f73 f
    rintro kk ⟨f, n11, H11⟩ ⟨i, k11, ⟨f1, f4, f9, f11, f12, f14, f16, f62, f63, f64⟩, f17, f87, f88, f89, hil, rfl⟩ ihr
    simp only at k11 f1 f4 f9 f11 f12 f14 f16 f62 f63 f64 f17 f87 f88 f89 ihr
    have hw11 := k11.wf hw10
    have hle11 := k11.le
    have kg := k9.trans (k10.trans k11)
    by_cases hlt : i < g.rules.length
    case pos =>
      have hiw : IntKind.i64.wrap ((i : Int) + 1) = ((i + 1 : Nat) : Int) := by rw [wrap_in (by omega) (by omega)]; rfl
      obtain ⟨z, kz, cs, ty, own, pp, e0, hz, d0, d1, d2, hp⟩ := (hr.mono hw (k18.trans kg)).at hlt
      subst e0
      have d3 := take3 d0 d1 d2
      have d4 := len3 d2
      have hlf := lft_eq hlt
      have sp3 : ∀ a b c : Value, AM.splice [.int .i64 (Int.ofNat 0), .slice none 0 0, .float .f64 0] 0 [a, b, c] = [a, b, c] := fun _ _ _ => rfl
      generalize g.rules[i] = ru at *
      have kr := Kp.new n11 H11 (.cells [.int .i64 ru.left, .slice pp ru.right.length ru.right.length, .float .f64 ru.weight] 65 true)
      have hRu := hset_at H11 n11 (.cells [.int .i64 ru.left, .slice pp ru.right.length ru.right.length, .float .f64 ru.weight] 65 true)
      by_cases hlv : ru.left = v
      case neg =>
        have hlv' : (ru.left = v) = False := eq_false hlv
        repeat (first | apply WK.seq | apply WK.block | apply WK.skipSeq | apply WK.skipBlock | apply WK.retSeq | apply WK.retBlock | apply WK.exitSeq | apply WK.exitHere | refine WK.exitOn rfl ?_ | ((first | (refine WK.rgn ?_ ?_; kernel_rfl) | refine AtCall.now ?_); simp (config := { maxSteps := 1000000 }) only [SS, qx1, forall_const, vun, tap, tap2, tap3, tap4, tsrc, tsrc2, Int.reduceEq, Int.reduceNeg, Nat.reduceGT, Nat.reduceLT, Nat.reduceLeDiff, Nat.reduceEqDiff, ↓reduceIte, reduceCtorEq, Int.reduceToNat, Int.reduceLE, Int.reduceLT, Nat.reduceAdd, Nat.reduceMul, f1, f87, f88, f89, hlt, hz, d3, d4, sp3, hlv', decide_false, Bool.not_false, hset_at, hiw, ff_4]) | (refine WK.condT ?_ ?_; focus (simp only [ev_tmp, ev_const, fset_apply, Nat.reduceEqDiff, ↓reduceIte, decide_true, decide_false, f1, f87, f88, f89, hlt, hz, d3, d4, sp3, hlv', decide_false, Bool.not_false, hset_at, hiw, ff_4]; done)) | (refine WK.condF ?_ ?_; focus (simp only [ev_tmp, ev_const, fset_apply, Nat.reduceEqDiff, ↓reduceIte, decide_true, decide_false, f1, f87, f88, f89, hlt, hz, d3, d4, sp3, hlv', decide_false, Bool.not_false, hset_at, hiw, ff_4]; done)))
        refine ihr (g.rules.length - (i + 1)) (by omega) _ ?_
        exact ⟨i + 1, k11.trans kr, ⟨f1, f4, f9, f11, f12, f14, f16, f62, f63, f64⟩, f17, f87, f88, rfl, hlt, rfl⟩
      have hlv' : (ru.left = v) = True := eq_true hlv
      have hG11 := (kg.keep n (by omega)).trans hG8
      have hSb11 := (kg.keep n4 (by omega)).trans hSb8
      have qn : ∀ o, hset H11 n11 o n = _ := fun o => (hset_ne _ _ _ (by omega)).trans hG11
      have qs : ∀ o, hset H11 n11 o n4 = _ := fun o => (hset_ne _ _ _ (by omega)).trans hSb11
      have sb3 : ∀ a b c : Value, (([a, b, c] : List Value).drop 0).take 3 = [a, b, c] := fun _ _ _ => rfl
      repeat (first | apply WK.seq | apply WK.block | apply WK.skipSeq | apply WK.skipBlock | apply WK.retSeq | apply WK.retBlock | apply WK.exitSeq | apply WK.exitHere | refine WK.exitOn rfl ?_ | ((first | (refine WK.rgn ?_ ?_; kernel_rfl) | refine AtCall.now ?_); simp (config := { maxSteps := 1000000 }) only [SS, qx1, forall_const, vun, tap, tap2, tap3, tap4, tsrc, tsrc2, Int.reduceEq, Int.reduceNeg, Nat.reduceGT, Nat.reduceLT, Nat.reduceLeDiff, Nat.reduceEqDiff, ↓reduceIte, reduceCtorEq, Int.reduceToNat, Int.reduceLE, Int.reduceLT, Nat.reduceAdd, Nat.reduceMul, f1, f4, f9, f87, f88, f89, hlt, hz, d3, d4, sp3, hlv', decide_true, Bool.not_true, qn, qs, g2, g3, sb3, hset_at, ff_4]) | (refine WK.condT ?_ ?_; focus (simp only [ev_tmp, ev_const, fset_apply, Nat.reduceEqDiff, ↓reduceIte, decide_true, decide_false, f1, f4, f9, f87, f88, f89, hlt, hz, d3, d4, sp3, hlv', decide_true, Bool.not_true, qn, qs, g2, g3, sb3, hset_at, ff_4]; done)) | (refine WK.condF ?_ ?_; focus (simp only [ev_tmp, ev_const, fset_apply, Nat.reduceEqDiff, ↓reduceIte, decide_true, decide_false, f1, f4, f9, f87, f88, f89, hlt, hz, d3, d4, sp3, hlv', decide_true, Bool.not_true, qn, qs, g2, g3, sb3, hset_at, ff_4]; done)))
      generalize hset H11 n11 (.cells [.int .i64 ru.left, .slice pp ru.right.length ru.right.length, .float .f64 ru.weight] 65 true) = H12 at *
      have hw12 := kr.wf hw11
      have kg12 := kg.trans kr
      refine AtCall.by (look_gives (r := i) hw12 (hG8'.mono hw8 kg12) hi (by omega) (by omega) hlen (hF8.mono hw8 kg12) (hO8.mono hw8 kg12) hFl hOl hlt) ?_
      rintro _ n13 H13 k13w ⟨pZ, Z, rfl, hZ, hZm⟩
      have hw13 := k13w.wf hw12
      have hle13 := k13w.le
      have hZl := hZ.len
      have hLk : ∀ c, c ∈ Z.map (·.1) ↔ LookL g i c := fun c => (hZm c).trans (look_iff hi hS hC hlt c)
      have k1013 := k11.trans (kr.trans k13w)
      have hwu : WD H13 (u, some ⟨y, 0, none⟩) := (wd_own hyc).mono hw9 (k10.trans k1013)
      simp (config := { maxSteps := 1000000 }) only [SS, qx1, forall_const, vun, tap, tap2, tap3, tap4, tsrc, tsrc2, Int.reduceEq, Int.reduceNeg, Nat.reduceGT, Nat.reduceLT, Nat.reduceLeDiff, Nat.reduceEqDiff, ↓reduceIte, reduceCtorEq, Int.reduceToNat, Int.reduceLE, Int.reduceLT, Nat.reduceAdd, Nat.reduceMul, ff_4]
      repeat (first | apply WK.seq | apply WK.block | apply WK.skipSeq | apply WK.skipBlock | apply WK.retSeq | apply WK.retBlock | apply WK.exitSeq | apply WK.exitHere | refine WK.exitOn rfl ?_ | ((first | (refine WK.rgn ?_ ?_; kernel_rfl) | refine AtCall.now ?_); simp (config := { maxSteps := 1000000 }) only [SS, qx1, forall_const, vun, tap, tap2, tap3, tap4, tsrc, tsrc2, Int.reduceEq, Int.reduceNeg, Nat.reduceGT, Nat.reduceLT, Nat.reduceLeDiff, Nat.reduceEqDiff, ↓reduceIte, reduceCtorEq, Int.reduceToNat, Int.reduceLE, Int.reduceLT, Nat.reduceAdd, Nat.reduceMul, ff_4]) | (refine WK.condT ?_ ?_; focus (simp only [ev_tmp, ev_const, fset_apply, Nat.reduceEqDiff, ↓reduceIte, decide_true, decide_false, ff_4]; done)) | (refine WK.condF ?_ ?_; focus (simp only [ev_tmp, ev_const, fset_apply, Nat.reduceEqDiff, ↓reduceIte, decide_true, decide_false, ff_4]; done)))
      refine WK.loop (fun kk s => ∃ k : Nat, s.n = n13 ∧ s.H = H13 ∧ LkF n n4 n8 nn y q v tq u p R s.f ∧ s.f 17 = .slice (some ⟨yE, 0, none⟩) E.length E.length ∧ s.f 87 = .slice (some ⟨z, kz, none⟩) g.rules.length g.rules.length ∧ s.f 88 = .int .i64 (g.rules.length : Nat) ∧ s.f 89 = .int .i64 (i : Nat) ∧ s.f 20 = .int .i64 (i : Nat) ∧ s.f 22 = .int .i64 (bn (bgB ((Z.map (·.1)).take k) u)) ∧ s.f 23 = .int .i64 (bn (isB ((Z.map (·.1)).take k) u)) ∧ s.f 101 = .slice pZ Z.length Z.length ∧ s.f 102 = .int .i64 (Z.length : Nat) ∧ s.f 103 = .int .i64 (k : Nat) ∧ k ≤ Z.length ∧ kk = Z.length - k) Z.length ?_ ?_
      · exact ⟨0, rfl, rfl, ⟨f1, f4, f9, f11, f12, f14, f16, f62, f63, f64⟩, f17, f87, f88, f89, rfl, rfl, rfl, rfl, rfl, rfl, Nat.zero_le _, rfl⟩
      clear f1 f4 f9 f11 f12 f14 f16 f62 f63 f64 f17 f87 f88 f89 f
      rintro kk ⟨f, n14, H14⟩ ⟨k, e1, e2, ⟨f1, f4, f9, f11, f12, f14, f16, f62, f63, f64⟩, f17, f87, f88, f89, f20, f22, f23, f101, f102, f103, hkl, rfl⟩ ihw
      simp only at e1 e2 f1 f4 f9 f11 f12 f14 f16 f62 f63 f64 f17 f87 f88 f89 f20 f22 f23 f101 f102 f103 ihw
      subst e1 e2
      by_cases hk : k < Z.length
      case pos =>
        have hkw : IntKind.i64.wrap ((k : Int) + 1) = ((k + 1 : Nat) : Int) := by rw [wrap_in (by omega) (by omega)]; rfl
        obtain ⟨zz, kzz, czz, tzz, ozz, ez, hzz, hez⟩ := hZ.ws.at hk
        subst ez
        have hwk := hZ.ws.w _ (List.getElem_mem hk)
        have hwl := hZ.wl _ (List.getElem_mem hk)
        have hkm : k < (Z.map (·.1)).length := by rw [List.length_map]; exact hk
        have ebg := bgB_take (u := u) hkm
        have eis := isB_take (u := u) hkm
        rw [List.getElem_map] at ebg eis
        generalize Z[k] = w at *
        repeat (first | apply WK.seq | apply WK.block | apply WK.skipSeq | apply WK.skipBlock | apply WK.retSeq | apply WK.retBlock | apply WK.exitSeq | apply WK.exitHere | refine WK.exitOn rfl ?_)
        (refine WK.rgn ?_ ?_; kernel_rfl; simp (config := { maxSteps := 1000000 }) only [SS, qx1, forall_const, vun, tap, tap2, tap3, tap4, tsrc, tsrc2, Int.reduceEq, Int.reduceNeg, Nat.reduceGT, Nat.reduceLT, Nat.reduceLeDiff, Nat.reduceEqDiff, ↓reduceIte, reduceCtorEq, Int.reduceToNat, Int.reduceLE, Int.reduceLT, Nat.reduceAdd, Nat.reduceMul, f102, f103, hk, ff_4])
        repeat (first | apply WK.seq | apply WK.block | apply WK.skipSeq | apply WK.skipBlock | apply WK.retSeq | apply WK.retBlock | apply WK.exitSeq | apply WK.exitHere | refine WK.exitOn rfl ?_)
        first | (refine WK.condT ?_ ?_; focus (simp only [ev_tmp, ev_const, fset_apply, Nat.reduceEqDiff, ↓reduceIte, decide_true, decide_false]; done)) | (refine WK.condF ?_ ?_; focus (simp only [ev_tmp, ev_const, fset_apply, Nat.reduceEqDiff, ↓reduceIte, decide_true, decide_false]; done))
        apply WK.skipSeq; apply WK.seq; apply WK.block; apply WK.seq
        (refine WK.rgn ?_ ?_; kernel_rfl; simp (config := { maxSteps := 1000000 }) only [SS, qx1, forall_const, vun, tap, tap2, tap3, tap4, tsrc, tsrc2, Int.reduceEq, Int.reduceNeg, Nat.reduceGT, Nat.reduceLT, Nat.reduceLeDiff, Nat.reduceEqDiff, ↓reduceIte, reduceCtorEq, Int.reduceToNat, Int.reduceLE, Int.reduceLT, Nat.reduceAdd, Nat.reduceMul, f101, f103, hk, hzz, hez, ff_4])
        repeat (first | apply WK.seq | apply WK.block | apply WK.skipSeq | apply WK.skipBlock | apply WK.retSeq | apply WK.retBlock | apply WK.exitSeq | apply WK.exitHere | refine WK.exitOn rfl ?_)
        obtain ⟨w, pw⟩ := w
        simp only at hez hwk hwl ebg eis
        have hyr : RA (Value.int .i64) H14 (some ⟨y, 0, none⟩) u := hwu.1.ra
        have hula : u.length ≤ 2 := by omega
        refine WK.cut (fun s => s.n = n14 ∧ s.H = H14 ∧ LkF n n4 n8 nn y q v tq u p R s.f ∧ s.f 17 = .slice (some ⟨yE, 0, none⟩) E.length E.length ∧ s.f 87 = .slice (some ⟨z, kz, none⟩) g.rules.length g.rules.length ∧ s.f 88 = .int .i64 (g.rules.length : Nat) ∧ s.f 89 = .int .i64 (i : Nat) ∧ s.f 20 = .int .i64 (i : Nat) ∧ s.f 22 = .int .i64 (bn (bgB ((Z.map (·.1)).take k) u)) ∧ s.f 23 = .int .i64 (bn (isB ((Z.map (·.1)).take k) u)) ∧ s.f 25 = .slice pw w.length w.length ∧ s.f 101 = .slice (some ⟨zz, kzz, none⟩) Z.length Z.length ∧ s.f 102 = .int .i64 (Z.length : Nat) ∧ s.f 103 = .int .i64 (k : Nat) ∧ s.f 119 = .bool (decide (u.length ≤ w.length) && decide (w.take u.length = u))) ?_ ?_
        · by_cases hul : u.length ≤ w.length
          · have hul' : ((u.length : Int) ≤ (w.length : Int)) = True := eq_true (by omega)
            rcases hwk.1 with ⟨h1, h2⟩ | ⟨zw, kw, cw, tw, ow, h1, h2, h3, h4⟩
            · simp only at h1 h2
              subst h1 h2
              have hu0 : u.length = 0 := by simpa using hul
              have hs := same_gives (n := n14) (H := H14) (pa := none) (a := []) (fun h => absurd rfl h) hyr (by unfold maxL; simp) (by unfold maxL; omega)
              rw [hu0] at hs hul'
              (refine WK.rgn ?_ ?_; kernel_rfl; simp (config := { maxSteps := 1000000 }) only [SS, qx1, forall_const, vun, tap, tap2, tap3, tap4, tsrc, tsrc2, Int.reduceEq, Int.reduceNeg, Nat.reduceGT, Nat.reduceLT, Nat.reduceLeDiff, Nat.reduceEqDiff, ↓reduceIte, reduceCtorEq, Int.reduceToNat, Int.reduceLE, Int.reduceLT, Nat.reduceAdd, Nat.reduceMul, f14, hu0, hul', List.length_nil, decide_true, Nat.le_refl, aop_slnil und_il inf_int, ff_4])
              refine AtCall.by hs ?_
              rintro _ n15 H15 k15 ⟨rfl, hn15, hH15⟩
              subst hn15
              obtain rfl := hH15.symm
              simp (config := { maxSteps := 1000000 }) only [SS, qx1, forall_const, vun, tap, tap2, tap3, tap4, tsrc, tsrc2, Int.reduceEq, Int.reduceNeg, Nat.reduceGT, Nat.reduceLT, Nat.reduceLeDiff, Nat.reduceEqDiff, ↓reduceIte, reduceCtorEq, Int.reduceToNat, Int.reduceLE, Int.reduceLT, Nat.reduceAdd, Nat.reduceMul, ff_4]
              refine WK.skipNil ⟨rfl, rfl, rfl, ⟨f1, f4, f9, f11, f12, f14, f16, f62, f63, f64⟩, f17, f87, f88, f89, f20, f22, f23, rfl, f101, f102, f103, ?_⟩
              rw [same_eq]
              rfl
            · simp only at h1 h2 h3 h4
              subst h1
              obtain ⟨cs', own', e7⟩ := hwk.2 zw kw rfl
              rw [h2] at e7
              cases e7
              have htl : (w.take u.length).length = u.length := by rw [List.length_take, Nat.min_eq_left hul]
              have hra : RA (Value.int .i64) H14 (some ⟨zw, kw, none⟩) (w.take u.length) := fun _ => ⟨zw, kw, _, _, _, rfl, h2, fun i y e => h4 i y (by
                rw [List.getElem?_take] at e
                split at e
                · exact e
                · cases e)⟩
              have hs := same_gives (n := n14) (H := H14) hra hyr (by unfold maxL; omega) (by unfold maxL; omega)
              rw [htl] at hs
              (refine WK.rgn ?_ ?_; kernel_rfl; simp (config := { maxSteps := 1000000 }) only [SS, qx1, forall_const, vun, tap, tap2, tap3, tap4, tsrc, tsrc2, Int.reduceEq, Int.reduceNeg, Nat.reduceGT, Nat.reduceLT, Nat.reduceLeDiff, Nat.reduceEqDiff, ↓reduceIte, reduceCtorEq, Int.reduceToNat, Int.reduceLE, Int.reduceLT, Nat.reduceAdd, Nat.reduceMul, f14, hul, hul', h2, isz_3, decide_true, implies_true, Nat.zero_le, Nat.zero_mul, Nat.mul_one, Nat.add_zero, Nat.sub_zero, ff_4])
              refine AtCall.by hs ?_
              rintro _ n15 H15 k15 ⟨rfl, hn15, hH15⟩
              subst hn15
              obtain rfl := hH15.symm
              simp (config := { maxSteps := 1000000 }) only [SS, qx1, forall_const, vun, tap, tap2, tap3, tap4, tsrc, tsrc2, Int.reduceEq, Int.reduceNeg, Nat.reduceGT, Nat.reduceLT, Nat.reduceLeDiff, Nat.reduceEqDiff, ↓reduceIte, reduceCtorEq, Int.reduceToNat, Int.reduceLE, Int.reduceLT, Nat.reduceAdd, Nat.reduceMul, ff_4]
              refine WK.skipNil ⟨rfl, rfl, rfl, ⟨f1, f4, f9, f11, f12, f14, f16, f62, f63, f64⟩, f17, f87, f88, f89, f20, f22, f23, rfl, f101, f102, f103, ?_⟩
              rw [same_eq]
              rfl
          · have hul' : ((u.length : Int) ≤ (w.length : Int)) = False := eq_false (by omega)
            (refine WK.rgn ?_ ?_; kernel_rfl; simp (config := { maxSteps := 1000000 }) only [SS, qx1, forall_const, vun, tap, tap2, tap3, tap4, tsrc, tsrc2, Int.reduceEq, Int.reduceNeg, Nat.reduceGT, Nat.reduceLT, Nat.reduceLeDiff, Nat.reduceEqDiff, ↓reduceIte, reduceCtorEq, Int.reduceToNat, Int.reduceLE, Int.reduceLT, Nat.reduceAdd, Nat.reduceMul, f14, hul', decide_false, ff_4])
            exact WK.skipNil ⟨rfl, rfl, rfl, ⟨f1, f4, f9, f11, f12, f14, f16, f62, f63, f64⟩, f17, f87, f88, f89, f20, f22, f23, rfl, f101, f102, f103, by rw [decide_eq_false hul]; rfl⟩
        clear f1 f4 f9 f11 f12 f14 f16 f62 f63 f64 f17 f87 f88 f89 f20 f22 f23 f101 f102 f103 f
        rintro ⟨f, n15, H15⟩ ⟨e1, e2, ⟨f1, f4, f9, f11, f12, f14, f16, f62, f63, f64⟩, f17, f87, f88, f89, f20, f22, f23, f25, f101, f102, f103, f119⟩
        simp only at e1 e2 f1 f4 f9 f11 f12 f14 f16 f62 f63 f64 f17 f87 f88 f89 f20 f22 f23 f25 f101 f102 f103 f119
        subst e1 e2
        repeat (first | apply WK.seq | apply WK.block | apply WK.skipSeq | apply WK.skipBlock | apply WK.retSeq | apply WK.retBlock | apply WK.exitSeq | apply WK.exitHere | refine WK.exitOn rfl ?_)
        generalize hb1 : (decide (u.length ≤ w.length) && decide (w.take u.length = u)) = b1 at *
        refine WK.cut (fun s => s.n = n15 ∧ s.H = H15 ∧ LkF n n4 n8 nn y q v tq u p R s.f ∧ s.f 17 = .slice (some ⟨yE, 0, none⟩) E.length E.length ∧ s.f 87 = .slice (some ⟨z, kz, none⟩) g.rules.length g.rules.length ∧ s.f 88 = .int .i64 (g.rules.length : Nat) ∧ s.f 89 = .int .i64 (i : Nat) ∧ s.f 20 = .int .i64 (i : Nat) ∧ s.f 22 = .int .i64 (bn (bgB ((Z.map (·.1)).take (k + 1)) u)) ∧ s.f 23 = .int .i64 (bn (isB ((Z.map (·.1)).take k) u)) ∧ s.f 25 = .slice pw w.length w.length ∧ s.f 101 = .slice (some ⟨zz, kzz, none⟩) Z.length Z.length ∧ s.f 102 = .int .i64 (Z.length : Nat) ∧ s.f 103 = .int .i64 (k : Nat)) ?_ ?_
        · cases b1 with
          | false =>
            rw [Bool.or_false] at ebg
            first | (refine WK.condT ?_ ?_; focus (simp only [ev_tmp, ev_const, fset_apply, Nat.reduceEqDiff, ↓reduceIte, decide_true, decide_false, f119]; done)) | (refine WK.condF ?_ ?_; focus (simp only [ev_tmp, ev_const, fset_apply, Nat.reduceEqDiff, ↓reduceIte, decide_true, decide_false, f119]; done))
            exact WK.skipNil ⟨rfl, rfl, rfl, ⟨f1, f4, f9, f11, f12, f14, f16, f62, f63, f64⟩, f17, f87, f88, f89, f20, by rw [ebg]; exact f22, f23, f25, f101, f102, f103⟩
          | true =>
            rw [Bool.or_true] at ebg
            first | (refine WK.condT ?_ ?_; focus (simp only [ev_tmp, ev_const, fset_apply, Nat.reduceEqDiff, ↓reduceIte, decide_true, decide_false, f119]; done)) | (refine WK.condF ?_ ?_; focus (simp only [ev_tmp, ev_const, fset_apply, Nat.reduceEqDiff, ↓reduceIte, decide_true, decide_false, f119]; done))
            (refine WK.rgn ?_ ?_; kernel_rfl; simp (config := { maxSteps := 1000000 }) only [SS, qx1, forall_const, vun, tap, tap2, tap3, tap4, tsrc, tsrc2, Int.reduceEq, Int.reduceNeg, Nat.reduceGT, Nat.reduceLT, Nat.reduceLeDiff, Nat.reduceEqDiff, ↓reduceIte, reduceCtorEq, Int.reduceToNat, Int.reduceLE, Int.reduceLT, Nat.reduceAdd, Nat.reduceMul, ff_4])
            exact WK.skipNil ⟨rfl, rfl, rfl, ⟨f1, f4, f9, f11, f12, f14, f16, f62, f63, f64⟩, f17, f87, f88, f89, f20, by rw [ebg]; rfl, f23, f25, f101, f102, f103⟩
        clear f1 f4 f9 f11 f12 f14 f16 f62 f63 f64 f17 f87 f88 f89 f20 f22 f23 f25 f101 f102 f103 f119 f
        rintro ⟨f, n16, H16⟩ ⟨e1, e2, ⟨f1, f4, f9, f11, f12, f14, f16, f62, f63, f64⟩, f17, f87, f88, f89, f20, f22, f23, f25, f101, f102, f103⟩
        simp only at e1 e2 f1 f4 f9 f11 f12 f14 f16 f62 f63 f64 f17 f87 f88 f89 f20 f22 f23 f25 f101 f102 f103
        subst e1 e2
        repeat (first | apply WK.seq | apply WK.block | apply WK.skipSeq | apply WK.skipBlock | apply WK.retSeq | apply WK.retBlock | apply WK.exitSeq | apply WK.exitHere | refine WK.exitOn rfl ?_ | ((first | (refine WK.rgn ?_ ?_; kernel_rfl) | refine AtCall.now ?_); simp (config := { maxSteps := 1000000 }) only [SS, qx1, forall_const, vun, tap, tap2, tap3, tap4, tsrc, tsrc2, Int.reduceEq, Int.reduceNeg, Nat.reduceGT, Nat.reduceLT, Nat.reduceLeDiff, Nat.reduceEqDiff, ↓reduceIte, reduceCtorEq, Int.reduceToNat, Int.reduceLE, Int.reduceLT, Nat.reduceAdd, Nat.reduceMul, f14, f25, ff_4]) | (refine WK.condT ?_ ?_; focus (simp only [ev_tmp, ev_const, fset_apply, Nat.reduceEqDiff, ↓reduceIte, decide_true, decide_false, f14, f25, ff_4]; done)) | (refine WK.condF ?_ ?_; focus (simp only [ev_tmp, ev_const, fset_apply, Nat.reduceEqDiff, ↓reduceIte, decide_true, decide_false, f14, f25, ff_4]; done)))
        refine AtCall.by (same_gives (n := n16) (H := H16) hwk.1.ra hyr (by unfold maxL; omega) (by unfold maxL; omega)) ?_
        rintro _ n17 H17 k17 ⟨rfl, hn17, hH17⟩
        subst hn17
        obtain rfl := hH17.symm
        rw [same_eq]
        by_cases hwu2 : w = u
        · rw [decide_eq_true hwu2, Bool.or_true] at eis
          simp (config := { maxSteps := 1000000 }) only [SS, qx1, forall_const, vun, tap, tap2, tap3, tap4, tsrc, tsrc2, Int.reduceEq, Int.reduceNeg, Nat.reduceGT, Nat.reduceLT, Nat.reduceLeDiff, Nat.reduceEqDiff, ↓reduceIte, reduceCtorEq, Int.reduceToNat, Int.reduceLE, Int.reduceLT, Nat.reduceAdd, Nat.reduceMul, hwu2, decide_true, ff_4]
          repeat (first | apply WK.seq | apply WK.block | apply WK.skipSeq | apply WK.skipBlock | apply WK.retSeq | apply WK.retBlock | apply WK.exitSeq | apply WK.exitHere | refine WK.exitOn rfl ?_ | ((first | (refine WK.rgn ?_ ?_; kernel_rfl) | refine AtCall.now ?_); simp (config := { maxSteps := 1000000 }) only [SS, qx1, forall_const, vun, tap, tap2, tap3, tap4, tsrc, tsrc2, Int.reduceEq, Int.reduceNeg, Nat.reduceGT, Nat.reduceLT, Nat.reduceLeDiff, Nat.reduceEqDiff, ↓reduceIte, reduceCtorEq, Int.reduceToNat, Int.reduceLE, Int.reduceLT, Nat.reduceAdd, Nat.reduceMul, f103, hkw, ff_4]) | (refine WK.condT ?_ ?_; focus (simp only [ev_tmp, ev_const, fset_apply, Nat.reduceEqDiff, ↓reduceIte, decide_true, decide_false, f103, hkw, ff_4]; done)) | (refine WK.condF ?_ ?_; focus (simp only [ev_tmp, ev_const, fset_apply, Nat.reduceEqDiff, ↓reduceIte, decide_true, decide_false, f103, hkw, ff_4]; done)))
          refine ihw (Z.length - (k + 1)) (by omega) _ ?_
          exact ⟨k + 1, rfl, rfl, ⟨f1, f4, f9, f11, f12, f14, f16, f62, f63, f64⟩, f17, f87, f88, f89, f20, f22, by rw [eis]; rfl, f101, f102, rfl, hk, rfl⟩
        · rw [decide_eq_false hwu2, Bool.or_false] at eis
          simp (config := { maxSteps := 1000000 }) only [SS, qx1, forall_const, vun, tap, tap2, tap3, tap4, tsrc, tsrc2, Int.reduceEq, Int.reduceNeg, Nat.reduceGT, Nat.reduceLT, Nat.reduceLeDiff, Nat.reduceEqDiff, ↓reduceIte, reduceCtorEq, Int.reduceToNat, Int.reduceLE, Int.reduceLT, Nat.reduceAdd, Nat.reduceMul, hwu2, decide_false, ff_4]
          repeat (first | apply WK.seq | apply WK.block | apply WK.skipSeq | apply WK.skipBlock | apply WK.retSeq | apply WK.retBlock | apply WK.exitSeq | apply WK.exitHere | refine WK.exitOn rfl ?_ | ((first | (refine WK.rgn ?_ ?_; kernel_rfl) | refine AtCall.now ?_); simp (config := { maxSteps := 1000000 }) only [SS, qx1, forall_const, vun, tap, tap2, tap3, tap4, tsrc, tsrc2, Int.reduceEq, Int.reduceNeg, Nat.reduceGT, Nat.reduceLT, Nat.reduceLeDiff, Nat.reduceEqDiff, ↓reduceIte, reduceCtorEq, Int.reduceToNat, Int.reduceLE, Int.reduceLT, Nat.reduceAdd, Nat.reduceMul, f103, hkw, ff_4]) | (refine WK.condT ?_ ?_; focus (simp only [ev_tmp, ev_const, fset_apply, Nat.reduceEqDiff, ↓reduceIte, decide_true, decide_false, f103, hkw, ff_4]; done)) | (refine WK.condF ?_ ?_; focus (simp only [ev_tmp, ev_const, fset_apply, Nat.reduceEqDiff, ↓reduceIte, decide_true, decide_false, f103, hkw, ff_4]; done)))
          refine ihw (Z.length - (k + 1)) (by omega) _ ?_
          exact ⟨k + 1, rfl, rfl, ⟨f1, f4, f9, f11, f12, f14, f16, f62, f63, f64⟩, f17, f87, f88, f89, f20, f22, by rw [eis]; exact f23, f101, f102, rfl, hk, rfl⟩
      obtain rfl : k = Z.length := by omega
      have etk : (Z.map (·.1)).take Z.length = Z.map (·.1) := List.take_of_length_le (by rw [List.length_map]; exact Nat.le_refl _)
      rw [etk] at f22 f23
      clear ihw
      have hula : u.length ≤ 2 := by omega
      have hrow := L.row.mono hw9 (k10.trans k1013)
      have hal : ∀ x ∈ R, 0 ≤ x.1.alt ∧ x.1.alt < 48 := fun x hx => by have h := L.alt x hx; unfold AltOK at h; omega
      have hlv0 : lft g i = v := hlf.trans hlv
      repeat (first | apply WK.seq | apply WK.block | apply WK.skipSeq | apply WK.skipBlock | apply WK.retSeq | apply WK.retBlock | apply WK.exitSeq | apply WK.exitHere | refine WK.exitOn rfl ?_ | ((first | (refine WK.rgn ?_ ?_; kernel_rfl) | refine AtCall.now ?_); simp (config := { maxSteps := 1000000 }) only [SS, qx1, forall_const, vun, tap, tap2, tap3, tap4, tsrc, tsrc2, Int.reduceEq, Int.reduceNeg, Nat.reduceGT, Nat.reduceLT, Nat.reduceLeDiff, Nat.reduceEqDiff, ↓reduceIte, reduceCtorEq, Int.reduceToNat, Int.reduceLE, Int.reduceLT, Nat.reduceAdd, Nat.reduceMul, f12, f102, f103, hk, ff_4]) | (refine WK.condT ?_ ?_; focus (simp only [ev_tmp, ev_const, fset_apply, Nat.reduceEqDiff, ↓reduceIte, decide_true, decide_false, f12, f102, f103, hk, ff_4]; done)) | (refine WK.condF ?_ ?_; focus (simp only [ev_tmp, ev_const, fset_apply, Nat.reduceEqDiff, ↓reduceIte, decide_true, decide_false, f12, f102, f103, hk, ff_4]; done)))
      refine AtCall.by (alts_gives hw13 hrow L.srt hal (by omega)) ?_
      rintro _ n15 H15 k15 ⟨pA, RR, rfl, hRR, hRA⟩
      have hw15 := k15.wf hw13
      have hRRl := altsL_len (n := 48) hRA (fun c hc => by obtain ⟨z, hz, rfl⟩ := List.mem_map.1 hc; exact hal z hz)
      have hc1 := count_bn hRA ((L.begins hi hall hclV hlt hlv0).trans (bg_iff hLk hula).symm)
      simp (config := { maxSteps := 1000000 }) only [SS, qx1, forall_const, vun, tap, tap2, tap3, tap4, tsrc, tsrc2, Int.reduceEq, Int.reduceNeg, Nat.reduceGT, Nat.reduceLT, Nat.reduceLeDiff, Nat.reduceEqDiff, ↓reduceIte, reduceCtorEq, Int.reduceToNat, Int.reduceLE, Int.reduceLT, Nat.reduceAdd, Nat.reduceMul, f20, ff_4]
      refine AtCall.by (countA_gives hw15 hRR (by omega)) ?_
      rintro _ n16 H16 k16 rfl
      rw [hc1]
      have hw16 := k16.wf hw15
      have k1016 := k1013.trans (k15.trans k16)
      have hyE16 := (k1016.keep yE hyEn).trans hyE
      have hrE : RN 4 ccell H16 (some ⟨yE, 0, none⟩) E := .inr ⟨yE, 0, _, _, true, rfl, hyE16, by rw [fm_len ccell_len]; omega, by rw [List.drop_zero]; exact List.take_of_length_le (by rw [fm_len ccell_len]; omega)⟩
      have hsE : Srt E := by rw [hE]; exact List.Pairwise.filter _ L.srt
      have hEm : ∀ x ∈ E, x ∈ R := fun x hx => by rw [hE, List.mem_filter] at hx; exact hx.1
      have hbb : (bn (bgB (Z.map (·.1)) u) = bn (bgB (Z.map (·.1)) u)) = True := eq_true rfl
      simp (config := { maxSteps := 1000000 }) only [SS, qx1, forall_const, vun, tap, tap2, tap3, tap4, tsrc, tsrc2, Int.reduceEq, Int.reduceNeg, Nat.reduceGT, Nat.reduceLT, Nat.reduceLeDiff, Nat.reduceEqDiff, ↓reduceIte, reduceCtorEq, Int.reduceToNat, Int.reduceLE, Int.reduceLT, Nat.reduceAdd, Nat.reduceMul, f17, f22, hbb, decide_true, Bool.not_true, ff_4]
      refine AtCall.by (alts_gives hw16 hrE hsE (fun x hx => hal x (hEm x hx)) (by omega)) ?_
      rintro _ n17 H17 k17 ⟨pB, RB, rfl, hRB, hRBA⟩
      have hw17 := k17.wf hw16
      have hRBl := altsL_len (n := 48) hRBA (fun c hc => by obtain ⟨z, hz, rfl⟩ := List.mem_map.1 hc; exact hal z (hEm z hz))
      have hEs : E.map (·.1) = (R.filter fun x => decide (nextL g x.1 = -1)).map (·.1) := by rw [hE]
      have hc2 := count_bn hRBA (by rw [hEs]; exact (L.is hi hclV hlt hlv0).trans (is_iff hLk (by omega)).symm)
      simp (config := { maxSteps := 1000000 }) only [SS, qx1, forall_const, vun, tap, tap2, tap3, tap4, tsrc, tsrc2, Int.reduceEq, Int.reduceNeg, Nat.reduceGT, Nat.reduceLT, Nat.reduceLeDiff, Nat.reduceEqDiff, ↓reduceIte, reduceCtorEq, Int.reduceToNat, Int.reduceLE, Int.reduceLT, Nat.reduceAdd, Nat.reduceMul, f20, ff_4]
      refine AtCall.by (countA_gives hw17 hRB (by omega)) ?_
      rintro _ n18 H18 k18' rfl
      rw [hc2]
      have hbc : (bn (isB (Z.map (·.1)) u) = bn (isB (Z.map (·.1)) u)) = True := eq_true rfl
      simp (config := { maxSteps := 1000000 }) only [SS, qx1, forall_const, vun, tap, tap2, tap3, tap4, tsrc, tsrc2, Int.reduceEq, Int.reduceNeg, Nat.reduceGT, Nat.reduceLT, Nat.reduceLeDiff, Nat.reduceEqDiff, ↓reduceIte, reduceCtorEq, Int.reduceToNat, Int.reduceLE, Int.reduceLT, Nat.reduceAdd, Nat.reduceMul, f23, hbc, decide_true, Bool.not_true, ff_4]
      repeat (first | apply WK.seq | apply WK.block | apply WK.skipSeq | apply WK.skipBlock | apply WK.retSeq | apply WK.retBlock | apply WK.exitSeq | apply WK.exitHere | refine WK.exitOn rfl ?_ | ((first | (refine WK.rgn ?_ ?_; kernel_rfl) | refine AtCall.now ?_); simp (config := { maxSteps := 1000000 }) only [SS, qx1, forall_const, vun, tap, tap2, tap3, tap4, tsrc, tsrc2, Int.reduceEq, Int.reduceNeg, Nat.reduceGT, Nat.reduceLT, Nat.reduceLeDiff, Nat.reduceEqDiff, ↓reduceIte, reduceCtorEq, Int.reduceToNat, Int.reduceLE, Int.reduceLT, Nat.reduceAdd, Nat.reduceMul, f89, hiw, ff_4]) | (refine WK.condT ?_ ?_; focus (simp only [ev_tmp, ev_const, fset_apply, Nat.reduceEqDiff, ↓reduceIte, decide_true, decide_false, f89, hiw, ff_4]; done)) | (refine WK.condF ?_ ?_; focus (simp only [ev_tmp, ev_const, fset_apply, Nat.reduceEqDiff, ↓reduceIte, decide_true, decide_false, f89, hiw, ff_4]; done)))
      refine ihr (g.rules.length - (i + 1)) (by omega) _ ?_
      exact ⟨i + 1, k1016.trans (k17.trans k18'), ⟨f1, f4, f9, f11, f12, f14, f16, f62, f63, f64⟩, f17, f87, f88, rfl, hlt, rfl⟩
    obtain rfl : i = g.rules.length := by omega
    clear ihr
    have k911 := k10.trans k11
    have hyc11 := (k911.keep y hyn).trans hyc
    have htc11 := (k911.keep (n8 + 1) htn).trans htc
    have bl : u.length + 1 ≤ bigN := by unfold bigN; omega
    have hct : [n11].contains y = false := by simp; omega
    have hfl : (u.map (Value.int .i64)).length = u.length := List.length_map _
    have htk : (u.map (Value.int .i64)).take u.length = u.map (Value.int .i64) := List.take_of_length_le (by omega)
    have m1 : ∀ A, hset H11 n11 A y = _ := fun A => (hset_ne _ _ _ (by omega)).trans hyc11
    have kX : ∀ A C, Kx (fun z => z = y) n11 H11 (n11 + 1 + 1) (hset (hset (hset H11 n11 A) y .dead) (n11 + 1) C) := fun A C => (((Kp.new n11 H11 A).kx (X := fun z => z = y)).set (x := y) .dead (.inl rfl) (by omega)).trans (Kp.new (n11 + 1) _ C).kx
    have kY : ∀ A C, Kp n8 H8 (n11 + 1 + 1) (hset (hset (hset H11 n11 A) y .dead) (n11 + 1) C) := fun A C => ((kg.trans (Kp.new n11 H11 A)).set (x := y) .dead hy0 (by omega)).trans (Kp.new (n11 + 1) _ C)
    repeat (first | apply WK.seq | apply WK.block | apply WK.skipSeq | apply WK.skipBlock | apply WK.retSeq | apply WK.retBlock | apply WK.exitSeq | apply WK.exitHere | refine WK.exitOn rfl ?_ | ((first | (refine WK.rgn ?_ ?_; kernel_rfl) | refine AtCall.now ?_); simp (config := { maxSteps := 1000000 }) only [SS, qx1, forall_const, vun, tap, tap2, tap3, tap4, tsrc, tsrc2, Int.reduceEq, Int.reduceNeg, Nat.reduceGT, Nat.reduceLT, Nat.reduceLeDiff, Nat.reduceEqDiff, ↓reduceIte, reduceCtorEq, Int.reduceToNat, Int.reduceLE, Int.reduceLT, Nat.reduceAdd, Nat.reduceMul, f88, f89, hlt, f11, f12, f14, f16, m1, bl, hct, hfl, htk, hset_at, Nat.le_refl, List.drop_zero, Nat.mul_one, ff_4]) | (refine WK.condT ?_ ?_; focus (simp only [ev_tmp, ev_const, fset_apply, Nat.reduceEqDiff, ↓reduceIte, decide_true, decide_false, f88, f89, hlt, f11, f12, f14, f16, m1, bl, hct, hfl, htk, hset_at, Nat.le_refl, List.drop_zero, Nat.mul_one, ff_4]; done)) | (refine WK.condF ?_ ?_; focus (simp only [ev_tmp, ev_const, fset_apply, Nat.reduceEqDiff, ↓reduceIte, decide_true, decide_false, f88, f89, hlt, f11, f12, f14, f16, m1, bl, hct, hfl, htk, hset_at, Nat.le_refl, List.drop_zero, Nat.mul_one, ff_4]; done)))
    have kX1 := kX (.cells [.int .i64 tq] 3 true) (.cells (u.map (Value.int .i64) ++ List.take 1 [.int .i64 tq]) 3 true)
    have kY1 := kY (.cells [.int .i64 tq] 3 true) (.cells (u.map (Value.int .i64) ++ List.take 1 [.int .i64 tq]) 3 true)
    have hnw : (hset (hset (hset H11 n11 (.cells [.int .i64 tq] 3 true)) y .dead) (n11 + 1) (.cells (u.map (Value.int .i64) ++ List.take 1 [.int .i64 tq]) 3 true)) (n11 + 1) = .cells ((u ++ [tq]).map (Value.int .i64)) 3 true := (hset_at _ _ _).trans (by rw [List.map_append]; rfl)
    generalize (hset (hset (hset H11 n11 (.cells [.int .i64 tq] 3 true)) y .dead) (n11 + 1) (.cells (u.map (Value.int .i64) ++ List.take 1 [.int .i64 tq]) 3 true)) = H12 at *
    have hw12 := kX1.wf hw11
    have htc12 := (kX1.keep (n8 + 1) (by omega) (by omega)).trans htc11
    have ne12 := ne8.mono hw8 kY1
    have hL12 : R ≠ [] → RN 4 ccell H12 p R := fun h => rn_kx (L.row.mono hw9 k911) h hw11 hyc11 (by omega) kX1
    have hX12 : ∀ z ∈ R, XC H12 z := fun z hz => ((L.xc z hz).keep (Kp.spk hw9 k911)).keep (spk_int hw11 hyc11 kX1)
    refine AtCall.by (move_givesE hw12 ne12 ok hL12 hX12 (fun z hz => L.gc z hz) (by omega) (fun z hz => by have := L.dp z hz; omega)) ?_
    rintro _ n13 H13 k13 ⟨pM, M, rfl, hM, hMm, hMx⟩
    have hw13 := k13.wf hw12
    have hle13 := k13.le
    have ne13 := ne12.mono hw12 k13
    have hMl : M.length ≤ 200 := by
      have h1 : M.length = (M.map (·.1)).length := (List.length_map _).symm
      rw [h1, hMm]
      exact Nat.le_trans moveL_len (by rw [List.length_map]; omega)
    have hMg : ∀ z ∈ M, GC g z.1 ∧ z.1.stack.length ≤ 8 := fun z hz => by
      have h1 : z.1 ∈ moveL g tq (R.map (·.1)) := by rw [← hMm]; exact List.mem_map.2 ⟨z, hz, rfl⟩
      obtain ⟨dd, hd, e, h0, hn⟩ := moveL_at h1
      obtain ⟨yy, hy, rfl⟩ := List.mem_map.1 hd
      rw [e]
      exact ⟨mvC_gc (L.gc yy hy) h0 hn, L.dp yy hy⟩
    obtain ⟨l, A, hbh, hfu, eA⟩ := L.ex
    have hbn := hbh.next hi hclV hfu tq
    rw [← eA, ← hMm] at hbn
    simp (config := { maxSteps := 1000000 }) only [SS, qx1, forall_const, vun, tap, tap2, tap3, tap4, tsrc, tsrc2, Int.reduceEq, Int.reduceNeg, Nat.reduceGT, Nat.reduceLT, Nat.reduceLeDiff, Nat.reduceEqDiff, ↓reduceIte, reduceCtorEq, Int.reduceToNat, Int.reduceLE, Int.reduceLT, Nat.reduceAdd, Nat.reduceMul, ff_4]
    refine AtCall.by (close_gives (deep := 8) (most := 200) hw13 ne13 ok hgl hlen hM hMx (fun z hz => (hMg z hz).1) (by omega) (by omega) (by omega) (fun z hz => by have := (hMg z hz).2; omega)) ?_
    rintro va n14 H14 k14 ⟨b, S, hclo, hres⟩
    rw [hcl] at hclo
    have hw14 := k14.wf hw13
    have hle14 := k14.le
    have hcl2 : ∃ p' R', va = .tuple #[.slice p' R'.length R'.length, .bool b] ∧ (b = true → LSt g v (u ++ [tq]) H14 p' R') := by
      rcases hres with ⟨rfl, rfl⟩ | ⟨rfl, hS, hSm, hSd, hSg, pR, R', hR, rfl, hpR, hxR⟩
      · exact ⟨none, [], rfl, fun h => by cases h⟩
      · exact ⟨pR, R', rfl, fun _ => LSt.of hbn hclo hS hSm hSd hSg hR hpR hxR⟩
    obtain ⟨p', R', rfl, hLS'⟩ := hcl2
    clear hres hclo
    have k1214 := k13.trans k14
    simp (config := { maxSteps := 1000000 }) only [SS, qx1, forall_const, vun, tap, tap2, tap3, tap4, tsrc, tsrc2, Int.reduceEq, Int.reduceNeg, Nat.reduceGT, Nat.reduceLT, Nat.reduceLeDiff, Nat.reduceEqDiff, ↓reduceIte, reduceCtorEq, Int.reduceToNat, Int.reduceLE, Int.reduceLT, Nat.reduceAdd, Nat.reduceMul, List.toList_toArray, ff_4]
    repeat (first | apply WK.seq | apply WK.block | apply WK.skipSeq | apply WK.skipBlock | apply WK.retSeq | apply WK.retBlock | apply WK.exitSeq | apply WK.exitHere | refine WK.exitOn rfl ?_ | ((first | (refine WK.rgn ?_ ?_; kernel_rfl) | refine AtCall.now ?_); simp (config := { maxSteps := 1000000 }) only [SS, qx1, forall_const, vun, tap, tap2, tap3, tap4, tsrc, tsrc2, Int.reduceEq, Int.reduceNeg, Nat.reduceGT, Nat.reduceLT, Nat.reduceLeDiff, Nat.reduceEqDiff, ↓reduceIte, reduceCtorEq, Int.reduceToNat, Int.reduceLE, Int.reduceLT, Nat.reduceAdd, Nat.reduceMul, f64, hqw, ff_4]) | (refine WK.condT ?_ ?_; focus (simp only [ev_tmp, ev_const, fset_apply, Nat.reduceEqDiff, ↓reduceIte, decide_true, decide_false, f64, hqw, ff_4]; done)) | (refine WK.condF ?_ ?_; focus (simp only [ev_tmp, ev_const, fset_apply, Nat.reduceEqDiff, ↓reduceIte, decide_true, decide_false, f64, hqw, ff_4]; done)))
    refine ih (2 - (q + 1)) (by omega) _ ?_
    exact ⟨q + 1, u ++ [tq], n11 + 1, b, p', R', kY1.trans k1214, f1, f4, f9, f11, rfl, rfl, by rw [List.length_append, List.length_singleton]; rfl, f62, f63, rfl, by omega, by simp [huq], by omega, by show n11 + 1 < n14; omega, by omega, by show n8 + 1 < n14; omega, (k1214.keep (n11 + 1) (by omega)).trans hnw, (k1214.keep (n8 + 1) (by omega)).trans htc12, hLS', rfl⟩
end Go.Proofs.Ytfbdababcdfjfaa
