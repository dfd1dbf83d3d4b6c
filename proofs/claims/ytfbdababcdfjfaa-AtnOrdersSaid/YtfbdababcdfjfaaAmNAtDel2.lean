/- A part of a proof. Its conditions: none. -/
import Derived.Test.YtfbdababcdfjfaaAmNAtClo
import Derived.Test.YtfbdababcdfjfaaAmNLfInG
set_option linter.all false
namespace Go.Proofs.Ytfbdababcdfjfaa
open Go.AM
set_option maxRecDepth 100000
theorem splice_take {cs vs : List Value} {k m : Nat} (h : k + vs.length ≤ cs.length) (hm : m ≤ k) : (AM.splice cs k vs).take m = cs.take m := by
  apply List.ext_getElem?
  intro i
  rw [List.getElem?_take, List.getElem?_take]
  by_cases hi : i < m
  · rw [if_pos hi, if_pos hi, splice_get vs cs k h, if_neg (by omega)]
  · rw [if_neg hi, if_neg hi]
theorem splice_put {cs vs : List Value} {k : Nat} (h : k + vs.length ≤ cs.length) : (AM.splice cs k vs).take (k + vs.length) = cs.take k ++ vs := by
  apply List.ext_getElem?
  intro i
  rw [List.getElem?_take]
  by_cases hi : i < k + vs.length
  · rw [if_pos hi, splice_get vs cs k h]
    by_cases h1 : k ≤ i
    · rw [if_pos ⟨h1, hi⟩, List.getElem?_append_right (by simp; omega)]
      congr 1
      simp; omega
    · rw [if_neg (by omega), List.getElem?_append_left (by simp; omega), List.getElem?_take, if_pos (by omega)]
  · rw [if_neg hi, List.getElem?_eq_none (by simp; omega)]
theorem splice_drop {cs vs : List Value} {k m : Nat} (h : k + vs.length ≤ cs.length) (hm : k + vs.length ≤ m) : (AM.splice cs k vs).drop m = cs.drop m := by
  apply List.ext_getElem?
  intro i
  rw [List.getElem?_drop, List.getElem?_drop, splice_get vs cs k h, if_neg (by omega)]
theorem z_cells : ∃ i zs, Try.prog.info? 47 = some i ∧ i.size = 4 ∧ zeroCellsOf Try.prog 47 = some zs ∧ zs.length = 4 := by
  obtain ⟨i, hi, h1, h2⟩ := i_cfg
  have h3 : (zeroCellsOf Try.prog 47).map (·.length) = some 4 := by kernel_rfl
  obtain ⟨zs, h4, h5⟩ := Option.map_eq_some_iff.1 h3
  exact ⟨i, zs, hi, h1, h4, h5⟩
theorem clear_cfg {H : Heap} {y k m c : Nat} {cs : List Value} (hy : H y = .cells cs 47 true) (hk : k + (m + 1) * 4 ≤ cs.length) :
    ∃ zs, (rep (m + 1) zs).length = (m + 1) * 4 ∧ aclear Try.prog H #[31] (.slice (some ⟨y, k, none⟩) (m + 1) c) = some { v := .tuple #[], wr := some (y, .cells (AM.splice cs k (rep (m + 1) zs)) 47 true) } := by
  obtain ⟨i, zs, hi, h1, h2, h3⟩ := z_cells
  have hl : (rep (m + 1) zs).length = (m + 1) * 4 := by rw [rep_length, h3]
  refine ⟨zs, hl, ?_⟩
  unfold aclear
  have h0 : (#[31] : Array TypeId)[0]? = some 31 := rfl
  simp only [h0, u_cfgs, hy, hi, h2]
  rw [if_pos ⟨by omega, by omega⟩]
theorem aop_clear {P : Program} {f : Fr} {n : Nat} {H : Heap} {d : Option Nat} {x : Operand} {t ty : TypeId} {p : String} {af : Array Edge} {gd : Option (Nat × Bool)} :
    aop P (evalA f) n H ⟨d, .call { callee := .builtin .clear, args := #[x], argTypes := #[t] }, ty, p, af, gd⟩ = aclear P H #[t] (evalA f x) := rfl
set_option maxHeartbeats 16000000 in
theorem delete_gives {N nn bn n cc ys : Nat} {H0 H : Heap} {S : List CA} {pt pv pr : Option Addr} {g : Gram} {cl : List (Option Addr × List (Int × Int))} (hw0 : WF N H0) (k0 : Kp N H0 n H) (ne : NE H0 nn pt pv pr g cc cl) (hi : InG g) (hgl : g.terms.length ≤ 64 ∧ g.vars.length ≤ 64)
    (hlen : ∀ r ∈ g.rules, r.right.length ≤ 24) (hv : ∀ x ∈ S, VC g x.1) (hbn : H0 bn = .cells [.pointer (some ⟨nn, 0, none⟩)] 29 true) (hS : OC H ys S) (hN : S ≠ [] → N ≤ ys) (hl : S.length ≤ 65536) :
    GivesX Try.prog (fun z => N ≤ z) 39 [sl ys S.length, .func (.func 40) #[] #[.pointer (some ⟨bn, 0, none⟩)]] n H fun v _ H' => SpK H H' ∧
      ∃ p L, v = .slice p L.length L.length ∧ L = S.filter (fun x => !idle g x.1) ∧ RN 4 ccell H' p L := by
  have hw := k0.wf hw0
  refine GivesX.of orders ok39 (Nat.le_of_ble_eq_true rfl) ?_
  have v1 : ∀ s, vcells (.agg (ccell s).toArray) = ccell s := fun _ => rfl
  have v2 : ∀ s, (ccell s).all one = true := fun _ => rfl
  have v5 : ∀ s, (ccell s).length = 4 := fun _ => rfl
  have v6 : ∀ s, ((ccell s).drop 0).take 4 = ccell s := fun _ => rfl
  have v7 : ∀ a b c d s, AM.splice [a, b, c, d] 0 (ccell s) = ccell s := fun _ _ _ _ _ => rfl
  have hif := indexF_gives hw0 k0 ne hi hgl hlen hv hbn hS.rn hl
  rw [sl_eq]
  repeat (first | apply WK.seq | apply WK.block | apply WK.skipSeq | apply WK.skipBlock | apply WK.retSeq | apply WK.retBlock | apply WK.exitSeq | apply WK.exitHere | refine WK.exitOn rfl ?_ | ((first | (refine WK.rgn ?_ ?_; kernel_rfl) | refine AtCall.now ?_); simp (config := { maxSteps := 1000000 }) only [SS, forall_const, wx, tguard, acallee, top, tval, fput, tor, vsh, vbin, vun, tload, tload2, tload3, tstore, tstore2, tstore3, Go.AM.splice, one, tidx, tidx2, tidx3, tlen2, tlen3, talloc, still, still1, flat1, tsl, tsl2, tsl3, tsl4, tsl5, Go.AM.bound, Int.reduceEq, Int.reduceNeg, Nat.reduceGT, Nat.reduceLT, Nat.reduceLeDiff, Nat.reduceEqDiff, ↓reduceIte, reduceCtorEq, Int.reduceToNat, Int.reduceLE, Int.reduceLT, Nat.reduceAdd, Nat.reduceMul, ff_39]) | (refine WK.condT ?_ ?_; focus (simp only [ev_tmp, ev_const, fset_apply, Nat.reduceEqDiff, ↓reduceIte, decide_true, decide_false, ff_39]; done)) | (refine WK.condF ?_ ?_; focus (simp only [ev_tmp, ev_const, fset_apply, Nat.reduceEqDiff, ↓reduceIte, decide_true, decide_false, ff_39]; done)))
  refine AtCall.by hif ?_
  rintro v n1 H1 k1 (⟨rfl, hno⟩ | ⟨i0, hi0, rfl, hyes, hno⟩)
  · have hm1 : (((-1 : Int)) = -1) = True := eq_self _
    simp (config := { maxSteps := 1000000 }) only [SS, forall_const, wx, tguard, acallee, top, tval, fput, tor, vsh, vbin, vun, tload, tload2, tload3, tstore, tstore2, tstore3, Go.AM.splice, one, tidx, tidx2, tidx3, tlen2, tlen3, talloc, still, still1, flat1, tsl, tsl2, tsl3, tsl4, tsl5, Go.AM.bound, Int.reduceEq, Int.reduceNeg, Nat.reduceGT, Nat.reduceLT, Nat.reduceLeDiff, Nat.reduceEqDiff, ↓reduceIte, reduceCtorEq, Int.reduceToNat, Int.reduceLE, Int.reduceLT, Nat.reduceAdd, Nat.reduceMul, ff_39]
    repeat (first | apply WK.seq | apply WK.block | apply WK.skipSeq | apply WK.skipBlock | apply WK.retSeq | apply WK.retBlock | apply WK.exitSeq | apply WK.exitHere | refine WK.exitOn rfl ?_ | ((first | (refine WK.rgn ?_ ?_; kernel_rfl) | refine AtCall.now ?_); simp (config := { maxSteps := 1000000 }) only [SS, forall_const, wx, tguard, acallee, top, tval, fput, tor, vsh, vbin, vun, tload, tload2, tload3, tstore, tstore2, tstore3, Go.AM.splice, one, tidx, tidx2, tidx3, tlen2, tlen3, talloc, still, still1, flat1, tsl, tsl2, tsl3, tsl4, tsl5, Go.AM.bound, Int.reduceEq, Int.reduceNeg, Nat.reduceGT, Nat.reduceLT, Nat.reduceLeDiff, Nat.reduceEqDiff, ↓reduceIte, reduceCtorEq, Int.reduceToNat, Int.reduceLE, Int.reduceLT, Nat.reduceAdd, Nat.reduceMul, hm1, decide_true, ff_39]) | (refine WK.condT ?_ ?_; focus (simp only [ev_tmp, ev_const, fset_apply, Nat.reduceEqDiff, ↓reduceIte, decide_true, decide_false, hm1, decide_true, ff_39]; done)) | (refine WK.condF ?_ ?_; focus (simp only [ev_tmp, ev_const, fset_apply, Nat.reduceEqDiff, ↓reduceIte, decide_true, decide_false, hm1, decide_true, ff_39]; done)))
    (first | refine WK.retNil ⟨Or.inr rfl, _, rfl, ?_, ?_⟩ | refine WK.skipNil ⟨Or.inl rfl, _, rfl, ?_, ?_⟩)
    · exact k1.kx.keep
    · simp only [packed, fset_apply, Nat.reduceEqDiff, ↓reduceIte, List.getD_cons_zero, List.getD_cons_succ, ff_39]
      refine ⟨Kp.spk hw k1, slp ys S.length, S, rfl, ?_, (hS.keep fun _ h => k1.keep ys (live_lt hw h)).rn⟩
      rw [List.filter_eq_self.2 fun x hx => by rw [hno x hx]; rfl]
  · have hw1 := k1.wf hw
    have hne : S ≠ [] := by intro e; rw [e] at hi0; simp at hi0
    obtain ⟨cs0, hc0, hl0, ht0⟩ := hS hne
    have hysn := live_lt hw (live_of hc0)
    have hc1 := (k1.keep ys hysn).trans hc0
    have hNy := hN hne
    have hm1 : (((i0 : Nat) : Int) = -1) = False := eq_false (by omega)
    have hiw0 : IntKind.i64.wrap ((i0 : Int) + 1) = ((i0 + 1 : Nat) : Int) := by rw [wrap_in (by omega) (by omega)]; rfl
    rw [slp_pos (by omega)]
    simp (config := { maxSteps := 1000000 }) only [SS, forall_const, wx, tguard, acallee, top, tval, fput, tor, vsh, vbin, vun, tload, tload2, tload3, tstore, tstore2, tstore3, Go.AM.splice, one, tidx, tidx2, tidx3, tlen2, tlen3, talloc, still, still1, flat1, tsl, tsl2, tsl3, tsl4, tsl5, Go.AM.bound, Int.reduceEq, Int.reduceNeg, Nat.reduceGT, Nat.reduceLT, Nat.reduceLeDiff, Nat.reduceEqDiff, ↓reduceIte, reduceCtorEq, Int.reduceToNat, Int.reduceLE, Int.reduceLT, Nat.reduceAdd, Nat.reduceMul, ff_39]
    repeat (first | apply WK.seq | apply WK.block | apply WK.skipSeq | apply WK.skipBlock | apply WK.retSeq | apply WK.retBlock | apply WK.exitSeq | apply WK.exitHere | refine WK.exitOn rfl ?_ | ((first | (refine WK.rgn ?_ ?_; kernel_rfl) | refine AtCall.now ?_); simp (config := { maxSteps := 1000000 }) only [SS, forall_const, wx, tguard, acallee, top, tval, fput, tor, vsh, vbin, vun, tload, tload2, tload3, tstore, tstore2, tstore3, Go.AM.splice, one, tidx, tidx2, tidx3, tlen2, tlen3, talloc, still, still1, flat1, tsl, tsl2, tsl3, tsl4, tsl5, Go.AM.bound, Int.reduceEq, Int.reduceNeg, Nat.reduceGT, Nat.reduceLT, Nat.reduceLeDiff, Nat.reduceEqDiff, ↓reduceIte, reduceCtorEq, Int.reduceToNat, Int.reduceLE, Int.reduceLT, Nat.reduceAdd, Nat.reduceMul, hm1, hiw0, decide_false, ff_39]) | (refine WK.condT ?_ ?_; focus (simp only [ev_tmp, ev_const, fset_apply, Nat.reduceEqDiff, ↓reduceIte, decide_true, decide_false, hm1, hiw0, decide_false, ff_39]; done)) | (refine WK.condF ?_ ?_; focus (simp only [ev_tmp, ev_const, fset_apply, Nat.reduceEqDiff, ↓reduceIte, decide_true, decide_false, hm1, hiw0, decide_false, ff_39]; done)))
    have hnn : ∀ l : List CA, (∀ x ∈ l, idle g x.1 = false) → l.filter (fun x => !idle g x.1) = l := fun l h => List.filter_eq_self.2 fun x hx => by rw [h x hx]; rfl
    have htk0 : S.take (i0 + 1) = S.take i0 ++ [S[i0]] := List.take_succ_eq_append_getElem hi0
    have hf0 : (S.take (i0 + 1)).filter (fun x => !idle g x.1) = S.take i0 := by
      rw [htk0, List.filter_append, hnn _ hno]
      simp [hyes]
    have hdr : ∀ j, j ≤ S.length → (S.flatMap ccell).drop (j * 4) = (S.drop j).flatMap ccell := fun j hj => by
      conv => lhs; rw [← List.take_append_drop j S, List.flatMap_append]
      have h3 : ((S.take j).flatMap ccell).length = j * 4 := by rw [fm_len ccell_len, List.length_take]; omega
      rw [List.drop_append, h3, List.drop_of_length_le (by omega), Nat.sub_self]; rfl
    have htkf : ∀ j, j ≤ S.length → (S.flatMap ccell).take (j * 4) = (S.take j).flatMap ccell := fun j hj => by
      conv => lhs; rw [← List.take_append_drop j S, List.flatMap_append]
      rw [List.take_append_of_le_length (by rw [fm_len ccell_len, List.length_take]; omega), List.take_of_length_le (by rw [fm_len ccell_len, List.length_take]; omega)]
    have hspk : SpK H H1 := Kp.spk hw k1
    refine WK.loop (fun kk s => ∃ (i j : Nat) (cs : List Value), Kx (fun z => N ≤ z) n H s.n s.H ∧ SpK H s.H ∧ s.H ys = .cells cs 47 true ∧ ys < s.n ∧ S.length * 4 ≤ cs.length ∧ i < j ∧ j ≤ S.length ∧ i = ((S.take j).filter fun x => !idle g x.1).length ∧
      cs.take (i * 4) = ((S.take j).filter fun x => !idle g x.1).flatMap ccell ∧ (cs.drop (j * 4)).take ((S.length - j) * 4) = (S.drop j).flatMap ccell ∧ s.f 0 = .slice (some ⟨ys, 0, none⟩) S.length S.length ∧
      s.f 1 = .func (.func 40) #[] #[.pointer (some ⟨bn, 0, none⟩)] ∧ s.f 5 = .int .i64 (i : Nat) ∧ s.f 6 = .int .i64 (j : Nat) ∧ kk = S.length - j) (S.length - (i0 + 1)) ?_ ?_
    · refine ⟨i0, i0 + 1, cs0, k1.kx, hspk, hc1, by have := k1.le; show ys < n1; omega, hl0, by omega, hi0, ?_, ?_, ?_, rfl, rfl, rfl, rfl, rfl⟩
      · rw [hf0, List.length_take]; omega
      · rw [hf0, ← htkf i0 (by omega), ← ht0, List.take_take, Nat.min_eq_left (by omega)]
      · rw [← hdr (i0 + 1) hi0, ← ht0, List.drop_take]
        congr 1
        omega
    rintro kk ⟨f, n2, H2⟩ ⟨i, j, cs, k2, sp2, hcs, hyn, hlc, hij, hjl, hil, htk, hdk, f0, f1, f5, f6, rfl⟩ ih
    simp only at k2 sp2 hcs hyn f0 f1 f5 f6 ih
    have k02 : Kp N H0 n2 H2 := ((k0.kx (X := fun z => N ≤ z)).trans k2).kp fun q h1 h2 => by omega
    have hw2 := k02.wf hw0
    by_cases hlt : j < S.length
    · have hjw : IntKind.i64.wrap ((j : Int) + 1) = ((j + 1 : Nat) : Int) := by rw [wrap_in (by omega) (by omega)]; rfl
      have hiw : IntKind.i64.wrap ((i : Int) + 1) = ((i + 1 : Nat) : Int) := by rw [wrap_in (by omega) (by omega)]; rfl
      have hSd : S.drop j = S[j] :: S.drop (j + 1) := List.drop_eq_getElem_cons hlt
      have htj : S.take (j + 1) = S.take j ++ [S[j]] := List.take_succ_eq_append_getElem hlt
      have hmem := List.getElem_mem hlt
      have hvx := hv _ hmem
      rw [hSd, List.flatMap_cons] at hdk
      generalize S[j] = x at *
      have hx4 : (cs.drop (j * 4)).take 4 = ccell x := by
        have h := congrArg (List.take 4) hdk
        rw [List.take_take, Nat.min_eq_left (by omega), List.take_append_of_le_length (by rw [ccell_len]; exact Nat.le_refl _)] at h
        exact h.trans (List.take_of_length_le (by rw [ccell_len]; exact Nat.le_refl _))
      have hrest : (cs.drop ((j + 1) * 4)).take ((S.length - (j + 1)) * 4) = (S.drop (j + 1)).flatMap ccell := by
        have h := congrArg (List.drop 4) hdk
        have h9 : (ccell x).drop 4 = [] := rfl
        rw [List.drop_take, List.drop_drop, List.drop_append, ccell_len, h9, Nat.sub_self, List.nil_append, List.drop_zero] at h
        rw [← h, show j * 4 + 4 = (j + 1) * 4 by omega, show (S.length - j) * 4 - 4 = (S.length - (j + 1)) * 4 by omega]
      have hfit : j * 4 + 4 ≤ cs.length := by omega
      have k3 := Kp.new n2 H2 (.cells (ccell x) 47 true)
      have h3 := hset_at H2 n2 (.cells (ccell x) 47 true)
      have hcs3 := (k3.keep ys hyn).trans hcs
      have hw3 := k3.wf hw2
      have k03 := k02.trans k3
      have sp3 := sp2.trans (Kp.spk hw2 k3)
      have hcg := close1_gives (x := x) hw0 k03 ne hi hgl hlen hvx hbn
      have hSj : (S.take (j + 1)).filter (fun x => !idle g x.1) = ((S.take j).filter fun x => !idle g x.1) ++ if idle g x.1 then [] else [x] := by
        rw [htj, List.filter_append]
        cases hid : idle g x.1 <;> simp [hid]
      repeat (first | apply WK.seq | apply WK.block | apply WK.skipSeq | apply WK.skipBlock | apply WK.retSeq | apply WK.retBlock | apply WK.exitSeq | apply WK.exitHere | refine WK.exitOn rfl ?_)
      (refine WK.rgn ?_ ?_; kernel_rfl; simp (config := { maxSteps := 1000000 }) only [SS, forall_const, wx, tguard, acallee, top, tval, fput, tor, vsh, vbin, vun, tload, tload2, tload3, tstore, tstore2, tstore3, Go.AM.splice, one, tidx, tidx2, tidx3, tlen2, tlen3, talloc, still, still1, flat1, tsl, tsl2, tsl3, tsl4, tsl5, Go.AM.bound, Int.reduceEq, Int.reduceNeg, Nat.reduceGT, Nat.reduceLT, Nat.reduceLeDiff, Nat.reduceEqDiff, ↓reduceIte, reduceCtorEq, Int.reduceToNat, Int.reduceLE, Int.reduceLT, Nat.reduceAdd, Nat.reduceMul, f0, f6, hlt, ff_39])
      repeat (first | apply WK.seq | apply WK.block | apply WK.skipSeq | apply WK.skipBlock | apply WK.retSeq | apply WK.retBlock | apply WK.exitSeq | apply WK.exitHere | refine WK.exitOn rfl ?_)
      first | (refine WK.condT ?_ ?_; focus (simp only [ev_tmp, ev_const, fset_apply, Nat.reduceEqDiff, ↓reduceIte, decide_true, decide_false, hlt]; done)) | (refine WK.condF ?_ ?_; focus (simp only [ev_tmp, ev_const, fset_apply, Nat.reduceEqDiff, ↓reduceIte, decide_true, decide_false, hlt]; done))
      repeat (first | apply WK.seq | apply WK.block | apply WK.skipSeq | apply WK.skipBlock | apply WK.retSeq | apply WK.retBlock | apply WK.exitSeq | apply WK.exitHere | refine WK.exitOn rfl ?_)
      (refine WK.rgn ?_ ?_; kernel_rfl; simp (config := { maxSteps := 1000000 }) only [SS, forall_const, wx, tguard, acallee, top, tval, fput, tor, vsh, vbin, vun, tload, tload2, tload3, tstore, tstore2, tstore3, Go.AM.splice, one, tidx, tidx2, tidx3, tlen2, tlen3, talloc, still, still1, flat1, tsl, tsl2, tsl3, tsl4, tsl5, Go.AM.bound, Int.reduceEq, Int.reduceNeg, Nat.reduceGT, Nat.reduceLT, Nat.reduceLeDiff, Nat.reduceEqDiff, ↓reduceIte, reduceCtorEq, Int.reduceToNat, Int.reduceLE, Int.reduceLT, Nat.reduceAdd, Nat.reduceMul, f0, f6, hlt, hcs, hx4, hfit, v1, v2, v5, v7, Nat.zero_add, ff_39])
      generalize hset H2 n2 (.cells (ccell x) 47 true) = H3 at *
      repeat (first | apply WK.seq | apply WK.block | apply WK.skipSeq | apply WK.skipBlock | apply WK.retSeq | apply WK.retBlock | apply WK.exitSeq | apply WK.exitHere | refine WK.exitOn rfl ?_ | ((first | (refine WK.rgn ?_ ?_; kernel_rfl) | refine AtCall.now ?_); simp (config := { maxSteps := 1000000 }) only [SS, forall_const, wx, tguard, acallee, top, tval, fput, tor, vsh, vbin, vun, tload, tload2, tload3, tstore, tstore2, tstore3, Go.AM.splice, one, tidx, tidx2, tidx3, tlen2, tlen3, talloc, still, still1, flat1, tsl, tsl2, tsl3, tsl4, tsl5, Go.AM.bound, Int.reduceEq, Int.reduceNeg, Nat.reduceGT, Nat.reduceLT, Nat.reduceLeDiff, Nat.reduceEqDiff, ↓reduceIte, reduceCtorEq, Int.reduceToNat, Int.reduceLE, Int.reduceLT, Nat.reduceAdd, Nat.reduceMul, f1, h3, v5, v6, List.nil_append, List.cons_append, ff_39]) | (refine WK.condT ?_ ?_; focus (simp only [ev_tmp, ev_const, fset_apply, Nat.reduceEqDiff, ↓reduceIte, decide_true, decide_false, f1, h3, v5, v6, List.nil_append, List.cons_append, ff_39]; done)) | (refine WK.condF ?_ ?_; focus (simp only [ev_tmp, ev_const, fset_apply, Nat.reduceEqDiff, ↓reduceIte, decide_true, decide_false, f1, h3, v5, v6, List.nil_append, List.cons_append, ff_39]; done)))
      refine AtCall.by hcg ?_
      rintro v n4 H4 k4 rfl
      have hle4 := k4.le
      have hw4 := k4.wf hw3
      have hcs4 := (k4.keep ys (by omega)).trans hcs3
      have h4 := (k4.keep n2 (by omega)).trans h3
      have k24 := k3.trans k4
      have sp4 := sp3.trans (Kp.spk hw3 k4)
      cases hid : idle g x.1 with
      | true =>
        rw [hid, if_pos rfl, List.append_nil] at hSj
        simp (config := { maxSteps := 1000000 }) only [SS, forall_const, wx, tguard, acallee, top, tval, fput, tor, vsh, vbin, vun, tload, tload2, tload3, tstore, tstore2, tstore3, Go.AM.splice, one, tidx, tidx2, tidx3, tlen2, tlen3, talloc, still, still1, flat1, tsl, tsl2, tsl3, tsl4, tsl5, Go.AM.bound, Int.reduceEq, Int.reduceNeg, Nat.reduceGT, Nat.reduceLT, Nat.reduceLeDiff, Nat.reduceEqDiff, ↓reduceIte, reduceCtorEq, Int.reduceToNat, Int.reduceLE, Int.reduceLT, Nat.reduceAdd, Nat.reduceMul, Bool.not_true, ff_39]
        repeat (first | apply WK.seq | apply WK.block | apply WK.skipSeq | apply WK.skipBlock | apply WK.retSeq | apply WK.retBlock | apply WK.exitSeq | apply WK.exitHere | refine WK.exitOn rfl ?_ | ((first | (refine WK.rgn ?_ ?_; kernel_rfl) | refine AtCall.now ?_); simp (config := { maxSteps := 1000000 }) only [SS, forall_const, wx, tguard, acallee, top, tval, fput, tor, vsh, vbin, vun, tload, tload2, tload3, tstore, tstore2, tstore3, Go.AM.splice, one, tidx, tidx2, tidx3, tlen2, tlen3, talloc, still, still1, flat1, tsl, tsl2, tsl3, tsl4, tsl5, Go.AM.bound, Int.reduceEq, Int.reduceNeg, Nat.reduceGT, Nat.reduceLT, Nat.reduceLeDiff, Nat.reduceEqDiff, ↓reduceIte, reduceCtorEq, Int.reduceToNat, Int.reduceLE, Int.reduceLT, Nat.reduceAdd, Nat.reduceMul, f6, hjw, ff_39]) | (refine WK.condT ?_ ?_; focus (simp only [ev_tmp, ev_const, fset_apply, Nat.reduceEqDiff, ↓reduceIte, decide_true, decide_false, f6, hjw, ff_39]; done)) | (refine WK.condF ?_ ?_; focus (simp only [ev_tmp, ev_const, fset_apply, Nat.reduceEqDiff, ↓reduceIte, decide_true, decide_false, f6, hjw, ff_39]; done)))
        exact ih (S.length - (j + 1)) (by omega) _ ⟨i, j + 1, cs, k2.trans k24.kx, sp4, hcs4, by show ys < n4; omega, hlc, by omega, hlt, by rw [hSj]; exact hil, by rw [hSj]; exact htk, hrest, f0, f1, f5, rfl, rfl⟩
      | false =>
        rw [hid, if_neg Bool.false_ne_true] at hSj
        have hsp : i * 4 + (ccell x).length ≤ cs.length := by rw [ccell_len]; omega
        have hfi : i * 4 + 4 ≤ cs.length := by omega
        have hin : i < S.length := by omega
        have hH5 : SpK H (hset H4 ys (.cells (AM.splice cs (i * 4) (ccell x)) 47 true)) := by
          intro z c own hz
          have h := sp4 z c own hz
          by_cases hzy : z = ys
          · subst hzy
            rw [hcs4] at h; cases h
          · rw [hset_ne _ _ _ hzy]; exact h
        have k25 := (k2.trans k24.kx).set (x := ys) (.cells (AM.splice cs (i * 4) (ccell x)) 47 true) (.inl hNy) (by show ys < n4; omega)
        have h5 := hset_at H4 ys (.cells (AM.splice cs (i * 4) (ccell x)) 47 true)
        simp (config := { maxSteps := 1000000 }) only [SS, forall_const, wx, tguard, acallee, top, tval, fput, tor, vsh, vbin, vun, tload, tload2, tload3, tstore, tstore2, tstore3, Go.AM.splice, one, tidx, tidx2, tidx3, tlen2, tlen3, talloc, still, still1, flat1, tsl, tsl2, tsl3, tsl4, tsl5, Go.AM.bound, Int.reduceEq, Int.reduceNeg, Nat.reduceGT, Nat.reduceLT, Nat.reduceLeDiff, Nat.reduceEqDiff, ↓reduceIte, reduceCtorEq, Int.reduceToNat, Int.reduceLE, Int.reduceLT, Nat.reduceAdd, Nat.reduceMul, Bool.not_false, ff_39]
        repeat (first | apply WK.seq | apply WK.block | apply WK.skipSeq | apply WK.skipBlock | apply WK.retSeq | apply WK.retBlock | apply WK.exitSeq | apply WK.exitHere | refine WK.exitOn rfl ?_ | ((first | (refine WK.rgn ?_ ?_; kernel_rfl) | refine AtCall.now ?_); simp (config := { maxSteps := 1000000 }) only [SS, forall_const, wx, tguard, acallee, top, tval, fput, tor, vsh, vbin, vun, tload, tload2, tload3, tstore, tstore2, tstore3, Go.AM.splice, one, tidx, tidx2, tidx3, tlen2, tlen3, talloc, still, still1, flat1, tsl, tsl2, tsl3, tsl4, tsl5, Go.AM.bound, Int.reduceEq, Int.reduceNeg, Nat.reduceGT, Nat.reduceLT, Nat.reduceLeDiff, Nat.reduceEqDiff, ↓reduceIte, reduceCtorEq, Int.reduceToNat, Int.reduceLE, Int.reduceLT, Nat.reduceAdd, Nat.reduceMul, f0, f5, f6, hjw, hiw, h4, hcs4, hin, hfi, v1, v2, v5, v6, Nat.zero_add, ff_39]) | (refine WK.condT ?_ ?_; focus (simp only [ev_tmp, ev_const, fset_apply, Nat.reduceEqDiff, ↓reduceIte, decide_true, decide_false, f0, f5, f6, hjw, hiw, h4, hcs4, hin, hfi, v1, v2, v5, v6, Nat.zero_add, ff_39]; done)) | (refine WK.condF ?_ ?_; focus (simp only [ev_tmp, ev_const, fset_apply, Nat.reduceEqDiff, ↓reduceIte, decide_true, decide_false, f0, f5, f6, hjw, hiw, h4, hcs4, hin, hfi, v1, v2, v5, v6, Nat.zero_add, ff_39]; done)))
        exact ih (S.length - (j + 1)) (by omega) _ ⟨i + 1, j + 1, AM.splice cs (i * 4) (ccell x), k25, hH5, h5, by show ys < n4; omega, by rw [splice_length]; exact hlc, by omega, hlt, by rw [hSj, List.length_append, List.length_singleton]; omega, by
          rw [hSj, List.flatMap_append, List.flatMap_singleton, ← htk]
          have h := splice_put hsp
          rw [ccell_len, show i * 4 + 4 = (i + 1) * 4 by omega] at h
          exact h, by
          rw [splice_drop hsp (by rw [ccell_len]; omega)]
          exact hrest, f0, f1, rfl, rfl, rfl⟩
    · obtain rfl : j = S.length := by omega
      rw [List.take_of_length_le (Nat.le_refl _)] at hil htk
      have hiN : i ≤ S.length := by omega
      obtain ⟨zs, hzl, hcl⟩ := clear_cfg (y := ys) (k := i * 4) (m := S.length - i - 1) (c := S.length - i) hcs (by omega)
      rw [show S.length - i - 1 + 1 = S.length - i by omega] at hzl hcl
      have h6 := hset_at H2 ys (.cells (AM.splice cs (i * 4) (rep (S.length - i) zs)) 47 true)
      have hH5 : SpK H (hset H2 ys (.cells (AM.splice cs (i * 4) (rep (S.length - i) zs)) 47 true)) := by
        intro z c own hz
        have h := sp2 z c own hz
        by_cases hzy : z = ys
        · subst hzy
          rw [hcs] at h; cases h
        · rw [hset_ne _ _ _ hzy]; exact h
      have k25 := k2.set (x := ys) (.cells (AM.splice cs (i * 4) (rep (S.length - i) zs)) 47 true) (.inl hNy) hyn
      repeat (first | apply WK.seq | apply WK.block | apply WK.skipSeq | apply WK.skipBlock | apply WK.retSeq | apply WK.retBlock | apply WK.exitSeq | apply WK.exitHere | refine WK.exitOn rfl ?_ | ((first | (refine WK.rgn ?_ ?_; kernel_rfl) | refine AtCall.now ?_); simp (config := { maxSteps := 1000000 }) only [SS, forall_const, wx, tguard, acallee, top, tval, fput, tor, vsh, vbin, vun, tload, tload2, tload3, tstore, tstore2, tstore3, Go.AM.splice, one, tidx, tidx2, tidx3, tlen2, tlen3, talloc, still, still1, flat1, tsl, tsl2, tsl3, tsl4, tsl5, Go.AM.bound, Int.reduceEq, Int.reduceNeg, Nat.reduceGT, Nat.reduceLT, Nat.reduceLeDiff, Nat.reduceEqDiff, ↓reduceIte, reduceCtorEq, Int.reduceToNat, Int.reduceLE, Int.reduceLT, Nat.reduceAdd, Nat.reduceMul, f0, f1, f5, f6, aop_clear, hcl, hcs, Nat.lt_irrefl, hiN, ff_39]) | (refine WK.condT ?_ ?_; focus (simp only [ev_tmp, ev_const, fset_apply, Nat.reduceEqDiff, ↓reduceIte, decide_true, decide_false, f0, f1, f5, f6, aop_clear, hcl, hcs, Nat.lt_irrefl, hiN, ff_39]; done)) | (refine WK.condF ?_ ?_; focus (simp only [ev_tmp, ev_const, fset_apply, Nat.reduceEqDiff, ↓reduceIte, decide_true, decide_false, f0, f1, f5, f6, aop_clear, hcl, hcs, Nat.lt_irrefl, hiN, ff_39]; done)))
      (first | refine WK.retNil ⟨Or.inr rfl, _, rfl, ?_, ?_⟩ | refine WK.skipNil ⟨Or.inl rfl, _, rfl, ?_, ?_⟩)
      · exact k25.keep
      · simp only [packed, fset_apply, Nat.reduceEqDiff, ↓reduceIte, List.getD_cons_zero, List.getD_cons_succ, ff_39]
        refine ⟨hH5, some ⟨ys, 0, none⟩, S.filter (fun x => !idle g x.1), by rw [← hil], rfl, .inr ⟨ys, 0, _, _, true, rfl, h6, by rw [splice_length]; omega, ?_⟩⟩
        rw [List.drop_zero, ← hil, splice_take (by rw [hzl]; omega) (Nat.le_refl _)]
        exact htk
end Go.Proofs.Ytfbdababcdfjfaa
