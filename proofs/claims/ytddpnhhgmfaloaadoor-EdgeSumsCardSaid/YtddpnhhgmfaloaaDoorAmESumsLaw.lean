/- A part of a proof. Its conditions: none. -/
import Derived.Test.YtddpnhhgmfaloaaDoorAmESums
import Derived.Test.YtddpnhhgmfaloaaDoorAmC
set_option linter.all false
namespace Go.Proofs.YtddpnhhgmfaloaaDoor
open Go.AM
set_option maxRecDepth 100000

theorem word_lt (s : Bool) (r : Nat) (h : r ≤ 9218868437227405312) : Ieee.Format.word Ieee.double s r < 18446744073709551616 := by
  have hsw : Ieee.Format.signWeight Ieee.double = 9223372036854775808 := rfl
  unfold Ieee.Format.word
  rw [hsw]
  cases s <;> simp <;> omega
theorem write_lt {d : Ieee.Datum} (h : d.isNaN = false) : Ieee.Format.write Ieee.double d < 18446744073709551616 := by
  have hinf : Ieee.Format.infRung Ieee.double = 9218868437227405312 := rfl
  cases d with
  | number s m e =>
    unfold Ieee.Format.write Ieee.Format.nearest
    simp only
    split
    · exact word_lt _ _ (by omega)
    · exact word_lt _ _ (by rw [hinf]; exact Nat.min_le_right _ _)
  | infinity s => exact word_lt _ _ (by rw [hinf]; exact Nat.le_refl _)
  | nan s f => cases h
theorem add_lt64 {a b r : Nat} (h : FloatKind.f64.format.add a b = some r) : r < 18446744073709551616 := by
  have h' : (Ieee.Datum.sum (Ieee.Format.read Ieee.double a) (Ieee.Format.read Ieee.double b)).map (Ieee.Format.write Ieee.double) = some r := h
  obtain ⟨d, hd, rfl⟩ := Option.map_eq_some_iff.1 h'
  refine write_lt ?_
  generalize Ieee.Format.read Ieee.double a = x at hd
  generalize Ieee.Format.read Ieee.double b = y at hd
  cases x <;> cases y <;> simp only [Ieee.Datum.sum] at hd <;> (try (cases hd; done)) <;> (try (cases hd; rfl))
  split at hd
  · cases hd; rfl
  · cases hd
theorem sumF_lt : ∀ {l : List Nat}, (∀ y ∈ l, y < 18446744073709551616) → ∀ b, sumF l = some b → b < 18446744073709551616
  | [], _, b, h => by simp [sumF] at h; omega
  | x :: xs, hl, b, h => by
    have key : ∀ (ys : List Nat) (acc : Option Nat), (∀ a, acc = some a → a < 18446744073709551616) → ∀ b, ys.foldl plus acc = some b → b < 18446744073709551616 := by
      intro ys
      induction ys with
      | nil => intro acc ha b h; exact ha b h
      | cons y ys ih =>
        intro acc ha b h
        refine ih (plus acc y) (fun a e => ?_) b h
        cases acc with
        | none => cases e
        | some a0 => exact add_lt64 e
    exact key xs (some x) (fun a e => by cases e; exact hl x (by simp)) b h

set_option maxHeartbeats 4000000 in
theorem sums_gives {p : Option Addr} {l : List Nat} {n : Nat} {H : Heap} (hw : WF n H) (hl : RS (fun n : Nat => Value.int .u64 n) H p l) (hlen : l.length ≤ maxL) (hb : ∀ y ∈ l, y < 18446744073709551616) (hG : ∀ z, G z ≠ .dead → H z = G z) :
    Gives Tryd.prog 4 [.slice p l.length l.length] n H fun v _ _ => v = .bool true := by
  refine Gives.of orders ok4 (Nat.le_of_ble_eq_true rfl) ?_
-- function 4
  repeat (first | apply WK.seq | apply WK.block | apply WK.skipSeq | apply WK.skipBlock | apply WK.retSeq | apply WK.retBlock | apply WK.exitSeq | apply WK.exitHere | refine WK.exitOn rfl ?_ | ((first | (refine WK.rgn ?_ ?_; kernel_rfl) | refine AtCall.now ?_); simp (config := { maxSteps := 1000000 }) only [SS, forall_const, wx, tguard, acallee, top, tval, fput, tor, vsh, vbin, vun, tload, tload2, tload3, tidx, tidx2, tlen2, tbs, tbs2, afill, Go.AM.splice, one, tap, tap2, tap3, tap4, tsrc, tsrc2, Int.reduceEq, Int.reduceNeg, Nat.reduceGT, Nat.reduceLT, Nat.reduceLeDiff, Nat.reduceEqDiff, ↓reduceIte, reduceCtorEq, Int.reduceToNat, Int.reduceLE, Int.reduceLT, Nat.reduceAdd, Nat.reduceMul, ff_4]) | (refine WK.condT ?_ ?_; focus (simp only [ev_tmp, ev_const, fset_apply, Nat.reduceEqDiff, ↓reduceIte, decide_true, decide_false, ff_4]; done)) | (refine WK.condF ?_ ?_; focus (simp only [ev_tmp, ev_const, fset_apply, Nat.reduceEqDiff, ↓reduceIte, decide_true, decide_false, ff_4]; done)))
  refine AtCall.by (alive_gives n H hG) ?_
  rintro v n' H' hk ⟨rfl, rfl, rfl⟩
  by_cases h60 : (60 : Int) < ((l.length : Nat) : Int)
  · simp (config := { maxSteps := 1000000 }) only [SS, forall_const, wx, tguard, acallee, top, tval, fput, tor, vsh, vbin, vun, tload, tload2, tload3, tidx, tidx2, tlen2, tbs, tbs2, afill, Go.AM.splice, one, tap, tap2, tap3, tap4, tsrc, tsrc2, Int.reduceEq, Int.reduceNeg, Nat.reduceGT, Nat.reduceLT, Nat.reduceLeDiff, Nat.reduceEqDiff, ↓reduceIte, reduceCtorEq, Int.reduceToNat, Int.reduceLE, Int.reduceLT, Nat.reduceAdd, Nat.reduceMul, Bool.not_true, ff_4]
    repeat (first | apply WK.seq | apply WK.block | apply WK.skipSeq | apply WK.skipBlock | apply WK.retSeq | apply WK.retBlock | apply WK.exitSeq | apply WK.exitHere | refine WK.exitOn rfl ?_ | ((first | (refine WK.rgn ?_ ?_; kernel_rfl) | refine AtCall.now ?_); simp (config := { maxSteps := 1000000 }) only [SS, forall_const, wx, tguard, acallee, top, tval, fput, tor, vsh, vbin, vun, tload, tload2, tload3, tidx, tidx2, tlen2, tbs, tbs2, afill, Go.AM.splice, one, tap, tap2, tap3, tap4, tsrc, tsrc2, Int.reduceEq, Int.reduceNeg, Nat.reduceGT, Nat.reduceLT, Nat.reduceLeDiff, Nat.reduceEqDiff, ↓reduceIte, reduceCtorEq, Int.reduceToNat, Int.reduceLE, Int.reduceLT, Nat.reduceAdd, Nat.reduceMul, h60, ff_4]) | (refine WK.condT ?_ ?_; focus (simp only [ev_tmp, ev_const, fset_apply, Nat.reduceEqDiff, ↓reduceIte, decide_true, decide_false, h60, ff_4]; done)) | (refine WK.condF ?_ ?_; focus (simp only [ev_tmp, ev_const, fset_apply, Nat.reduceEqDiff, ↓reduceIte, decide_true, decide_false, h60, ff_4]; done)))
    (first | refine WK.retNil ⟨Or.inr rfl, _, rfl, ?_, ?_⟩ | refine WK.skipNil ⟨Or.inl rfl, _, rfl, ?_, ?_⟩)
    · exact fun _ _ => rfl
    · simp only [packed, fset_apply, Nat.reduceEqDiff, ↓reduceIte, List.getD_cons_zero, List.getD_cons_succ, ff_4]
      try trivial
  have hL : l.length ≤ 60 := by omega
  simp (config := { maxSteps := 1000000 }) only [SS, forall_const, wx, tguard, acallee, top, tval, fput, tor, vsh, vbin, vun, tload, tload2, tload3, tidx, tidx2, tlen2, tbs, tbs2, afill, Go.AM.splice, one, tap, tap2, tap3, tap4, tsrc, tsrc2, Int.reduceEq, Int.reduceNeg, Nat.reduceGT, Nat.reduceLT, Nat.reduceLeDiff, Nat.reduceEqDiff, ↓reduceIte, reduceCtorEq, Int.reduceToNat, Int.reduceLE, Int.reduceLT, Nat.reduceAdd, Nat.reduceMul, Bool.not_true, ff_4]
  repeat (first | apply WK.seq | apply WK.block | apply WK.skipSeq | apply WK.skipBlock | apply WK.retSeq | apply WK.retBlock | apply WK.exitSeq | apply WK.exitHere | refine WK.exitOn rfl ?_ | ((first | (refine WK.rgn ?_ ?_; kernel_rfl) | refine AtCall.now ?_); simp (config := { maxSteps := 1000000 }) only [SS, forall_const, wx, tguard, acallee, top, tval, fput, tor, vsh, vbin, vun, tload, tload2, tload3, tidx, tidx2, tlen2, tbs, tbs2, afill, Go.AM.splice, one, tap, tap2, tap3, tap4, tsrc, tsrc2, Int.reduceEq, Int.reduceNeg, Nat.reduceGT, Nat.reduceLT, Nat.reduceLeDiff, Nat.reduceEqDiff, ↓reduceIte, reduceCtorEq, Int.reduceToNat, Int.reduceLE, Int.reduceLT, Nat.reduceAdd, Nat.reduceMul, h60, ff_4]) | (refine WK.condT ?_ ?_; focus (simp only [ev_tmp, ev_const, fset_apply, Nat.reduceEqDiff, ↓reduceIte, decide_true, decide_false, h60, ff_4]; done)) | (refine WK.condF ?_ ?_; focus (simp only [ev_tmp, ev_const, fset_apply, Nat.reduceEqDiff, ↓reduceIte, decide_true, decide_false, h60, ff_4]; done)))
  have hk := Kp.new n' H' (.cells [] 24 true)
  have hb0 := hset_at H' n' (.cells [] 24 true)
  have hl0 := hl
  replace hl := hl.mono hw hk
  have hw1 := hk.wf hw
  generalize hset H' n' (.cells [] 24 true) = H1 at *
  refine WK.loop (fun k s => ∃ (i x : Nat), Kp n' H' s.n s.H ∧ n' ≤ x ∧ x < s.n ∧ s.H x = .cells ((l.take i).map fl) 24 true ∧ s.f 3 = .slice (some ⟨x, 0, none⟩) i i ∧ s.f 12 = .slice p l.length l.length ∧ s.f 13 = .int .i64 (l.length : Nat) ∧ s.f 14 = .int .i64 (i : Nat) ∧ i ≤ l.length ∧ k = l.length - i) l.length ?_ ?_
  · exact ⟨0, n', hk, Nat.le_refl _, Nat.lt_succ_self _, hb0, rfl, rfl, rfl, rfl, Nat.zero_le _, rfl⟩
  rintro kk ⟨f, n2, H2⟩ ⟨i, x, kp, hnx, hxn, hx, f3, f12, f13, f14, hi, rfl⟩ ih
  simp only at kp hxn hx f3 f12 f13 f14 ih
  have hw2 := kp.wf hw
  by_cases hil : i < l.length
  · have hil' : ((i : Nat) : Int) < ((l.length : Nat) : Int) := by omega
    have hl2 := hl0.mono hw kp
    rcases hl2 with ⟨_, h⟩ | ⟨y, ky, cs, ty, own, rfl, hy, hfit, hget⟩
    · rw [h] at hil; simp at hil
    have hcs := hget i l[i] (List.getElem?_eq_getElem hil)
    have htk : (l.take (i + 1)).map fl = (l.take i).map fl ++ [.float .f64 l[i]] := by
      rw [List.take_succ_eq_append_getElem hil, List.map_append]; rfl
    have hlx : ((l.take i).map fl).length = i := by rw [List.length_map, List.length_take]; omega
    have hbl := hb l[i] (List.getElem_mem hil)
    generalize l[i] = b at hcs htk hbl
    have hdt : ((l.take i).map fl).take i = (l.take i).map fl := List.take_of_length_le (by omega)
    have hdl : i ≤ ((l.take i).map fl).length := by omega
    have hbg : i + 1 ≤ bigN := by unfold bigN; omega
    generalize (l.take i).map fl = ds at hx htk hlx hdt hdl
    have c1 : ∀ o, hset H2 n2 o x = .cells ds 24 true := fun o => (hset_ne _ _ _ (by omega)).trans hx
    have c2 : [n2].contains x = false := by simp; omega
    have hz1 : zeroCellsOf Tryd.prog 24 = some [.float .f64 0] := by kernel_rfl
    repeat (first | apply WK.seq | apply WK.block | apply WK.skipSeq | apply WK.skipBlock | apply WK.retSeq | apply WK.retBlock | apply WK.exitSeq | apply WK.exitHere | refine WK.exitOn rfl ?_ | ((first | (refine WK.rgn ?_ ?_; kernel_rfl) | refine AtCall.now ?_); simp (config := { maxSteps := 1000000 }) only [SS, forall_const, wx, tguard, acallee, top, tval, fput, tor, vsh, vbin, vun, tload, tload2, tload3, tidx, tidx2, tlen2, tbs, tbs2, afill, Go.AM.splice, one, tap, tap2, tap3, tap4, tsrc, tsrc2, Int.reduceEq, Int.reduceNeg, Nat.reduceGT, Nat.reduceLT, Nat.reduceLeDiff, Nat.reduceEqDiff, ↓reduceIte, reduceCtorEq, Int.reduceToNat, Int.reduceLE, Int.reduceLT, Nat.reduceAdd, Nat.reduceMul, f3, f12, f13, f14, hil, hil', hy, hcs, ext_frombits, Int.toNat_natCast, c1, c2, hdt, hdl, hbg, List.drop_zero, ff_4]) | (refine WK.condT ?_ ?_; focus (simp only [ev_tmp, ev_const, fset_apply, Nat.reduceEqDiff, ↓reduceIte, decide_true, decide_false, f3, f12, f13, f14, hil, hil', hy, hcs, ext_frombits, Int.toNat_natCast, c1, c2, hdt, hdl, hbg, List.drop_zero, ff_4]; done)) | (refine WK.condF ?_ ?_; focus (simp only [ev_tmp, ev_const, fset_apply, Nat.reduceEqDiff, ↓reduceIte, decide_true, decide_false, f3, f12, f13, f14, hil, hil', hy, hcs, ext_frombits, Int.toNat_natCast, c1, c2, hdt, hdl, hbg, List.drop_zero, ff_4]; done)))
    refine ih (l.length - (i + 1)) (by omega) _ ⟨i + 1, n2 + 1, ((kp.trans (Kp.new n2 H2 _)).set _ hnx (by omega)).trans (Kp.new (n2 + 1) _ _), by have := kp.le; omega, by simp, ?_, rfl, f12, f13, ?_, hil, rfl⟩
    · rw [htk]; exact hset_at _ _ _
    · simp only [packed, fset_apply, Nat.reduceEqDiff, ↓reduceIte, List.getD_cons_zero, List.getD_cons_succ, f14, ff_4]
      rw [wrap_in (by omega) (by omega)]; rfl
  · have hie : i = l.length := by omega
    subst hie
    rw [List.take_length] at hx
    have hil' : ¬ (((l.length : Nat) : Int) < ((l.length : Nat) : Int)) := by omega
    repeat (first | apply WK.seq | apply WK.block | apply WK.skipSeq | apply WK.skipBlock | apply WK.retSeq | apply WK.retBlock | apply WK.exitSeq | apply WK.exitHere | refine WK.exitOn rfl ?_ | ((first | (refine WK.rgn ?_ ?_; kernel_rfl) | refine AtCall.now ?_); simp (config := { maxSteps := 1000000 }) only [SS, forall_const, wx, tguard, acallee, top, tval, fput, tor, vsh, vbin, vun, tload, tload2, tload3, tidx, tidx2, tlen2, tbs, tbs2, afill, Go.AM.splice, one, tap, tap2, tap3, tap4, tsrc, tsrc2, Int.reduceEq, Int.reduceNeg, Nat.reduceGT, Nat.reduceLT, Nat.reduceLeDiff, Nat.reduceEqDiff, ↓reduceIte, reduceCtorEq, Int.reduceToNat, Int.reduceLE, Int.reduceLT, Nat.reduceAdd, Nat.reduceMul, f3, f12, f13, f14, hil', hil, ff_4]) | (refine WK.condT ?_ ?_; focus (simp only [ev_tmp, ev_const, fset_apply, Nat.reduceEqDiff, ↓reduceIte, decide_true, decide_false, f3, f12, f13, f14, hil', hil, ff_4]; done)) | (refine WK.condF ?_ ?_; focus (simp only [ev_tmp, ev_const, fset_apply, Nat.reduceEqDiff, ↓reduceIte, decide_true, decide_false, f3, f12, f13, f14, hil', hil, ff_4]; done)))
    refine AtCall.by (sum_gives hx hlen) ?_
    rintro v n3 H3 hk3 ⟨rfl, rfl, rfl⟩
    simp (config := { maxSteps := 1000000 }) only [SS, forall_const, wx, tguard, acallee, top, tval, fput, tor, vsh, vbin, vun, tload, tload2, tload3, tidx, tidx2, tlen2, tbs, tbs2, afill, Go.AM.splice, one, tap, tap2, tap3, tap4, tsrc, tsrc2, Int.reduceEq, Int.reduceNeg, Nat.reduceGT, Nat.reduceLT, Nat.reduceLeDiff, Nat.reduceEqDiff, ↓reduceIte, reduceCtorEq, Int.reduceToNat, Int.reduceLE, Int.reduceLT, Nat.reduceAdd, Nat.reduceMul, f3, ff_4]
    refine AtCall.by (rsum_gives hx hlen) ?_
    rintro v n3 H3 hk3 ⟨rfl, rfl, rfl⟩
    simp (config := { maxSteps := 1000000 }) only [SS, forall_const, wx, tguard, acallee, top, tval, fput, tor, vsh, vbin, vun, tload, tload2, tload3, tidx, tidx2, tlen2, tbs, tbs2, afill, Go.AM.splice, one, tap, tap2, tap3, tap4, tsrc, tsrc2, Int.reduceEq, Int.reduceNeg, Nat.reduceGT, Nat.reduceLT, Nat.reduceLeDiff, Nat.reduceEqDiff, ↓reduceIte, reduceCtorEq, Int.reduceToNat, Int.reduceLE, Int.reduceLT, Nat.reduceAdd, Nat.reduceMul, f3, ff_4]
    refine AtCall.by (same_fv (sumF l) (sumF_lt hb) _ _) ?_
    rintro v n3 H3 hk3 ⟨rfl, rfl, rfl⟩
    simp (config := { maxSteps := 1000000 }) only [SS, forall_const, wx, tguard, acallee, top, tval, fput, tor, vsh, vbin, vun, tload, tload2, tload3, tidx, tidx2, tlen2, tbs, tbs2, afill, Go.AM.splice, one, tap, tap2, tap3, tap4, tsrc, tsrc2, Int.reduceEq, Int.reduceNeg, Nat.reduceGT, Nat.reduceLT, Nat.reduceLeDiff, Nat.reduceEqDiff, ↓reduceIte, reduceCtorEq, Int.reduceToNat, Int.reduceLE, Int.reduceLT, Nat.reduceAdd, Nat.reduceMul, ff_4]
    repeat (first | apply WK.seq | apply WK.block | apply WK.skipSeq | apply WK.skipBlock | apply WK.retSeq | apply WK.retBlock | apply WK.exitSeq | apply WK.exitHere | refine WK.exitOn rfl ?_ | ((first | (refine WK.rgn ?_ ?_; kernel_rfl) | refine AtCall.now ?_); simp (config := { maxSteps := 1000000 }) only [SS, forall_const, wx, tguard, acallee, top, tval, fput, tor, vsh, vbin, vun, tload, tload2, tload3, tidx, tidx2, tlen2, tbs, tbs2, afill, Go.AM.splice, one, tap, tap2, tap3, tap4, tsrc, tsrc2, Int.reduceEq, Int.reduceNeg, Nat.reduceGT, Nat.reduceLT, Nat.reduceLeDiff, Nat.reduceEqDiff, ↓reduceIte, reduceCtorEq, Int.reduceToNat, Int.reduceLE, Int.reduceLT, Nat.reduceAdd, Nat.reduceMul, ff_4]) | (refine WK.condT ?_ ?_; focus (simp only [ev_tmp, ev_const, fset_apply, Nat.reduceEqDiff, ↓reduceIte, decide_true, decide_false, ff_4]; done)) | (refine WK.condF ?_ ?_; focus (simp only [ev_tmp, ev_const, fset_apply, Nat.reduceEqDiff, ↓reduceIte, decide_true, decide_false, ff_4]; done)))
    (first | refine WK.retNil ⟨Or.inr rfl, _, rfl, ?_, ?_⟩ | refine WK.skipNil ⟨Or.inl rfl, _, rfl, ?_, ?_⟩)
    · exact kp.keep
    · simp only [packed, fset_apply, Nat.reduceEqDiff, ↓reduceIte, List.getD_cons_zero, List.getD_cons_succ, ff_4]
      try trivial
end Go.Proofs.YtddpnhhgmfaloaaDoor
