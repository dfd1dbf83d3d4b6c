/- A part of a proof. Its conditions: none. -/
import Derived.Test.YtplnndgdklfnfaaAmLfGroupsR
import Derived.Test.YtplnndgdklfnfaaAmLfLess
import Derived.Test.YtplnndgdklfnfaaAmLfFew
import Derived.Test.YtplnndgdklfnfaaAmLfAlive
import Derived.Test.YtplnndgdklfnfaaAmLfRec
set_option linter.all false
namespace Go.Proofs.Ytplnndgdklfnfaa
open Go.AM

theorem less_self (a : List Int) : less a a = false := by
  induction a with
  | nil => rfl
  | cons x a ih => simp [less, ih]
theorem same_self (a : List Int) : same a a = true := by unfold same; rw [less_self]; rfl

/-- Lists of lists, that are the same. -/
theorem alike_gives {p q : Option Addr} {va vb : List Value} {ls : List (List Int)} {n : Nat} {H : Heap} (hp : RA id H p va) (hq : RA id H q vb) (hla : ls.length = va.length) (hlb : ls.length = vb.length) (hll : ls.length < 9223372036854775807)
    (ha : ∀ i (h : i < ls.length), ls[i].length ≤ maxL ∧ ∃ a, va[i]? = some (.slice a ls[i].length ls[i].length) ∧ RA (Value.int .i64) H a ls[i]) (hb : ∀ i (h : i < ls.length), ∃ a, vb[i]? = some (.slice a ls[i].length ls[i].length) ∧ RA (Value.int .i64) H a ls[i]) :
    Gives Try.prog 12 [.slice p va.length va.length, .slice q vb.length vb.length] n H fun v n' H' => v = .bool true ∧ n' = n ∧ H' = H := by
  rw [← hla, ← hlb]
  refine Gives.of orders ok12 (Nat.le_of_ble_eq_true rfl) ?_
-- function 12
  repeat (first | apply WK.seq | apply WK.block | apply WK.skipSeq | apply WK.skipBlock | apply WK.retSeq | apply WK.retBlock | apply WK.exitSeq | apply WK.exitHere | refine WK.exitOn rfl ?_ | ((first | (refine WK.rgn ?_ ?_; kernel_rfl) | refine AtCall.now ?_); simp (config := { maxSteps := 1000000 }) only [SS, forall_const, wx, tguard, acallee, top, tval, tor, tload, tload2, tload3, tstore, tstore2, tstore3, tidx, tidx2, tfa, tfa2, tlen2, tpick, textr, tbox, talloc, tmake, tbuild, tbs, tbs2, tfld, tfld2, tsl, tsl2, tsl3, tix, tix1, tix2, tap, tap2, tap3, tap4, tsrc, tsrc2, Int.reduceEq, Int.reduceNeg, Go.AM.bound, afill, Nat.reduceGT, Nat.reduceLT, still, still1, flat1, one, Go.AM.splice, Nat.reduceLeDiff, vsh, vbin, vun, vconv, fput, Nat.reduceEqDiff, ↓reduceIte, reduceCtorEq, Int.reduceToNat, Int.reduceLE, Int.reduceLT, Nat.reduceAdd, Nat.reduceMul, ff_12]) | (refine WK.condT ?_ ?_; focus (simp only [ev_tmp, ev_const, fset_apply, Nat.reduceEqDiff, ↓reduceIte, decide_true, decide_false, ff_12]; done)) | (refine WK.condF ?_ ?_; focus (simp only [ev_tmp, ev_const, fset_apply, Nat.reduceEqDiff, ↓reduceIte, decide_true, decide_false, ff_12]; done)))
  refine WK.loop (fun k s => ∃ i, s.n = n ∧ s.H = H ∧ s.f 0 = .slice p ls.length ls.length ∧ s.f 1 = .slice q ls.length ls.length ∧ s.f 5 = .int .i64 (i : Nat) ∧ i ≤ ls.length ∧ k = ls.length - i) ls.length ?_ ?_
  · exact ⟨0, rfl, rfl, rfl, rfl, rfl, Nat.zero_le _, rfl⟩
  rintro kk ⟨f, n', H'⟩ ⟨i, rfl, rfl, f0, f1, f5, hi, rfl⟩ ih
  simp only at f0 f1 f5 ih hp hq ha hb
  by_cases hil : i < ls.length
  · have hiw : IntKind.i64.wrap ((i : Int) + 1) = ((i + 1 : Nat) : Int) := by rw [wrap_in (by omega) (by omega)]; rfl
    obtain ⟨z1, k1, c1, t1, o1, rfl, h1, e1⟩ := hp.at (show i < va.length by omega)
    obtain ⟨z2, k2, c2, t2, o2, rfl, h2, e2⟩ := hq.at (show i < vb.length by omega)
    obtain ⟨hm, a, ea, ra⟩ := ha i hil
    obtain ⟨b, eb, rb⟩ := hb i hil
    rw [id_eq] at e1 e2
    rw [List.getElem?_eq_getElem (show i < va.length by omega)] at ea
    rw [List.getElem?_eq_getElem (show i < vb.length by omega)] at eb
    rw [Option.some.inj ea] at e1
    rw [Option.some.inj eb] at e2
    repeat (first | apply WK.seq | apply WK.block | apply WK.skipSeq | apply WK.skipBlock | apply WK.retSeq | apply WK.retBlock | apply WK.exitSeq | apply WK.exitHere | refine WK.exitOn rfl ?_ | ((first | (refine WK.rgn ?_ ?_; kernel_rfl) | refine AtCall.now ?_); simp (config := { maxSteps := 1000000 }) only [SS, forall_const, wx, tguard, acallee, top, tval, tor, tload, tload2, tload3, tstore, tstore2, tstore3, tidx, tidx2, tfa, tfa2, tlen2, tpick, textr, tbox, talloc, tmake, tbuild, tbs, tbs2, tfld, tfld2, tsl, tsl2, tsl3, tix, tix1, tix2, tap, tap2, tap3, tap4, tsrc, tsrc2, Int.reduceEq, Int.reduceNeg, Go.AM.bound, afill, Nat.reduceGT, Nat.reduceLT, still, still1, flat1, one, Go.AM.splice, Nat.reduceLeDiff, vsh, vbin, vun, vconv, fput, Nat.reduceEqDiff, ↓reduceIte, reduceCtorEq, Int.reduceToNat, Int.reduceLE, Int.reduceLT, Nat.reduceAdd, Nat.reduceMul, f0, f1, f5, hil, h1, h2, e1, e2, ff_12]) | (refine WK.condT ?_ ?_; focus (simp only [ev_tmp, ev_const, fset_apply, Nat.reduceEqDiff, ↓reduceIte, decide_true, decide_false, f0, f1, f5, hil, h1, h2, e1, e2, ff_12]; done)) | (refine WK.condF ?_ ?_; focus (simp only [ev_tmp, ev_const, fset_apply, Nat.reduceEqDiff, ↓reduceIte, decide_true, decide_false, f0, f1, f5, hil, h1, h2, e1, e2, ff_12]; done)))
    refine AtCall.by (same_gives ra rb hm hm) ?_
    rintro v n2 H2 hk2 ⟨rfl, rfl, rfl⟩
    rw [same_self]
    simp (config := { maxSteps := 1000000 }) only [SS, forall_const, wx, tguard, acallee, top, tval, tor, tload, tload2, tload3, tstore, tstore2, tstore3, tidx, tidx2, tfa, tfa2, tlen2, tpick, textr, tbox, talloc, tmake, tbuild, tbs, tbs2, tfld, tfld2, tsl, tsl2, tsl3, tix, tix1, tix2, tap, tap2, tap3, tap4, tsrc, tsrc2, Int.reduceEq, Int.reduceNeg, Go.AM.bound, afill, Nat.reduceGT, Nat.reduceLT, still, still1, flat1, one, Go.AM.splice, Nat.reduceLeDiff, vsh, vbin, vun, vconv, fput, Nat.reduceEqDiff, ↓reduceIte, reduceCtorEq, Int.reduceToNat, Int.reduceLE, Int.reduceLT, Nat.reduceAdd, Nat.reduceMul, ff_12]
    repeat (first | apply WK.seq | apply WK.block | apply WK.skipSeq | apply WK.skipBlock | apply WK.retSeq | apply WK.retBlock | apply WK.exitSeq | apply WK.exitHere | refine WK.exitOn rfl ?_ | ((first | (refine WK.rgn ?_ ?_; kernel_rfl) | refine AtCall.now ?_); simp (config := { maxSteps := 1000000 }) only [SS, forall_const, wx, tguard, acallee, top, tval, tor, tload, tload2, tload3, tstore, tstore2, tstore3, tidx, tidx2, tfa, tfa2, tlen2, tpick, textr, tbox, talloc, tmake, tbuild, tbs, tbs2, tfld, tfld2, tsl, tsl2, tsl3, tix, tix1, tix2, tap, tap2, tap3, tap4, tsrc, tsrc2, Int.reduceEq, Int.reduceNeg, Go.AM.bound, afill, Nat.reduceGT, Nat.reduceLT, still, still1, flat1, one, Go.AM.splice, Nat.reduceLeDiff, vsh, vbin, vun, vconv, fput, Nat.reduceEqDiff, ↓reduceIte, reduceCtorEq, Int.reduceToNat, Int.reduceLE, Int.reduceLT, Nat.reduceAdd, Nat.reduceMul, f5, ff_12]) | (refine WK.condT ?_ ?_; focus (simp only [ev_tmp, ev_const, fset_apply, Nat.reduceEqDiff, ↓reduceIte, decide_true, decide_false, f5, ff_12]; done)) | (refine WK.condF ?_ ?_; focus (simp only [ev_tmp, ev_const, fset_apply, Nat.reduceEqDiff, ↓reduceIte, decide_true, decide_false, f5, ff_12]; done)))
    refine ih (ls.length - (i + 1)) (by omega) _ ⟨i + 1, rfl, rfl, f0, f1, ?_, hil, rfl⟩
    simp only [packed, fset_apply, Nat.reduceEqDiff, ↓reduceIte, List.getD_cons_zero, List.getD_cons_succ, f5, hiw, ff_12]
  · repeat (first | apply WK.seq | apply WK.block | apply WK.skipSeq | apply WK.skipBlock | apply WK.retSeq | apply WK.retBlock | apply WK.exitSeq | apply WK.exitHere | refine WK.exitOn rfl ?_ | ((first | (refine WK.rgn ?_ ?_; kernel_rfl) | refine AtCall.now ?_); simp (config := { maxSteps := 1000000 }) only [SS, forall_const, wx, tguard, acallee, top, tval, tor, tload, tload2, tload3, tstore, tstore2, tstore3, tidx, tidx2, tfa, tfa2, tlen2, tpick, textr, tbox, talloc, tmake, tbuild, tbs, tbs2, tfld, tfld2, tsl, tsl2, tsl3, tix, tix1, tix2, tap, tap2, tap3, tap4, tsrc, tsrc2, Int.reduceEq, Int.reduceNeg, Go.AM.bound, afill, Nat.reduceGT, Nat.reduceLT, still, still1, flat1, one, Go.AM.splice, Nat.reduceLeDiff, vsh, vbin, vun, vconv, fput, Nat.reduceEqDiff, ↓reduceIte, reduceCtorEq, Int.reduceToNat, Int.reduceLE, Int.reduceLT, Nat.reduceAdd, Nat.reduceMul, f0, f1, f5, hil, ff_12]) | (refine WK.condT ?_ ?_; focus (simp only [ev_tmp, ev_const, fset_apply, Nat.reduceEqDiff, ↓reduceIte, decide_true, decide_false, f0, f1, f5, hil, ff_12]; done)) | (refine WK.condF ?_ ?_; focus (simp only [ev_tmp, ev_const, fset_apply, Nat.reduceEqDiff, ↓reduceIte, decide_true, decide_false, f0, f1, f5, hil, ff_12]; done)))
    (first | refine WK.retNil ⟨Or.inr rfl, _, rfl, ?_, ?_⟩ | refine WK.skipNil ⟨Or.inl rfl, _, rfl, ?_, ?_⟩)
    · exact fun _ _ => rfl
    · simp only [packed, fset_apply, Nat.reduceEqDiff, ↓reduceIte, List.getD_cons_zero, List.getD_cons_succ, ff_12]
      exact ⟨trivial, trivial, trivial⟩

set_option maxHeartbeats 8000000 in
theorem tells_gives {v : Value} {g : Gram} {n : Nat} {H : Heap} (hw : WF n H) (hg : RG H v g) (wg : WG g) :
    Gives Try.prog 3 [v] n H fun v _ _ => v = .bool true := by
  have hg0 := hg
  obtain ⟨pt, pv, pr, rfl, ht, hv, hr⟩ := hg
  refine Gives.of orders ok3 (Nat.le_of_ble_eq_true rfl) ?_
  have hk := Kp.new n H (.cells (gcells pt pv pr g) 25 true)
  have hb := hset_at H n (.cells (gcells pt pv pr g) 25 true)
-- function 3
  repeat (first | apply WK.seq | apply WK.block | apply WK.skipSeq | apply WK.skipBlock | apply WK.retSeq | apply WK.retBlock | apply WK.exitSeq | apply WK.exitHere | refine WK.exitOn rfl ?_)
  (refine WK.rgn ?_ ?_; kernel_rfl; simp (config := { maxSteps := 1000000 }) only [SS, forall_const, wx, tguard, acallee, top, tval, tor, tload, tload2, tload3, tstore, tstore2, tstore3, tidx, tidx2, tfa, tfa2, tlen2, tpick, textr, tbox, talloc, tmake, tbuild, tbs, tbs2, tfld, tfld2, tsl, tsl2, tsl3, tix, tix1, tix2, tap, tap2, tap3, tap4, tsrc, tsrc2, Int.reduceEq, Int.reduceNeg, Go.AM.bound, afill, Nat.reduceGT, Nat.reduceLT, still, still1, flat1, one, Go.AM.splice, Nat.reduceLeDiff, vsh, vbin, vun, vconv, fput, Nat.reduceEqDiff, ↓reduceIte, reduceCtorEq, Int.reduceToNat, Int.reduceLE, Int.reduceLT, Nat.reduceAdd, Nat.reduceMul, box_cells, box_one, ff_3])
  generalize hset H n (.cells (gcells pt pv pr g) 25 true) = H1 at *
  repeat (first | apply WK.seq | apply WK.block | apply WK.skipSeq | apply WK.skipBlock | apply WK.retSeq | apply WK.retBlock | apply WK.exitSeq | apply WK.exitHere | refine WK.exitOn rfl ?_)
  (refine WK.rgn ?_ ?_; kernel_rfl; simp (config := { maxSteps := 1000000 }) only [SS, forall_const, wx, tguard, acallee, top, tval, tor, tload, tload2, tload3, tstore, tstore2, tstore3, tidx, tidx2, tfa, tfa2, tlen2, tpick, textr, tbox, talloc, tmake, tbuild, tbs, tbs2, tfld, tfld2, tsl, tsl2, tsl3, tix, tix1, tix2, tap, tap2, tap3, tap4, tsrc, tsrc2, Int.reduceEq, Int.reduceNeg, Go.AM.bound, afill, Nat.reduceGT, Nat.reduceLT, still, still1, flat1, one, Go.AM.splice, Nat.reduceLeDiff, vsh, vbin, vun, vconv, fput, Nat.reduceEqDiff, ↓reduceIte, reduceCtorEq, Int.reduceToNat, Int.reduceLE, Int.reduceLT, Nat.reduceAdd, Nat.reduceMul, ff_3])
  refine AtCall.by (alive_gives _ _) ?_
  rintro v n' H' hk' ⟨rfl, rfl, rfl⟩
  simp (config := { maxSteps := 1000000 }) only [SS, forall_const, wx, tguard, acallee, top, tval, tor, tload, tload2, tload3, tstore, tstore2, tstore3, tidx, tidx2, tfa, tfa2, tlen2, tpick, textr, tbox, talloc, tmake, tbuild, tbs, tbs2, tfld, tfld2, tsl, tsl2, tsl3, tix, tix1, tix2, tap, tap2, tap3, tap4, tsrc, tsrc2, Int.reduceEq, Int.reduceNeg, Go.AM.bound, afill, Nat.reduceGT, Nat.reduceLT, still, still1, flat1, one, Go.AM.splice, Nat.reduceLeDiff, vsh, vbin, vun, vconv, fput, Nat.reduceEqDiff, ↓reduceIte, reduceCtorEq, Int.reduceToNat, Int.reduceLE, Int.reduceLT, Nat.reduceAdd, Nat.reduceMul, ff_3]
  repeat (first | apply WK.seq | apply WK.block | apply WK.skipSeq | apply WK.skipBlock | apply WK.retSeq | apply WK.retBlock | apply WK.exitSeq | apply WK.exitHere | refine WK.exitOn rfl ?_)
  first | (refine WK.condT ?_ ?_; focus (simp only [ev_tmp, ev_const, fset_apply, Nat.reduceEqDiff, ↓reduceIte, decide_true, decide_false]; done)) | (refine WK.condF ?_ ?_; focus (simp only [ev_tmp, ev_const, fset_apply, Nat.reduceEqDiff, ↓reduceIte, decide_true, decide_false]; done))
  repeat (first | apply WK.seq | apply WK.block | apply WK.skipSeq | apply WK.skipBlock | apply WK.retSeq | apply WK.retBlock | apply WK.exitSeq | apply WK.exitHere | refine WK.exitOn rfl ?_)
  (refine WK.rgn ?_ ?_; kernel_rfl; simp (config := { maxSteps := 1000000 }) only [SS, forall_const, wx, tguard, acallee, top, tval, tor, tload, tload2, tload3, tstore, tstore2, tstore3, tidx, tidx2, tfa, tfa2, tlen2, tpick, textr, tbox, talloc, tmake, tbuild, tbs, tbs2, tfld, tfld2, tsl, tsl2, tsl3, tix, tix1, tix2, tap, tap2, tap3, tap4, tsrc, tsrc2, Int.reduceEq, Int.reduceNeg, Go.AM.bound, afill, Nat.reduceGT, Nat.reduceLT, still, still1, flat1, one, Go.AM.splice, Nat.reduceLeDiff, vsh, vbin, vun, vconv, fput, Nat.reduceEqDiff, ↓reduceIte, reduceCtorEq, Int.reduceToNat, Int.reduceLE, Int.reduceLT, Nat.reduceAdd, Nat.reduceMul, hb, gc_len, gc_all, ff_3])
  refine AtCall.by (few_gives (hk.wf hw) (hg0.mono hw hk) wg) ?_
  rintro v n2 H2 k2 rfl
  cases hf : few g
  · simp (config := { maxSteps := 1000000 }) only [SS, forall_const, wx, tguard, acallee, top, tval, tor, tload, tload2, tload3, tstore, tstore2, tstore3, tidx, tidx2, tfa, tfa2, tlen2, tpick, textr, tbox, talloc, tmake, tbuild, tbs, tbs2, tfld, tfld2, tsl, tsl2, tsl3, tix, tix1, tix2, tap, tap2, tap3, tap4, tsrc, tsrc2, Int.reduceEq, Int.reduceNeg, Go.AM.bound, afill, Nat.reduceGT, Nat.reduceLT, still, still1, flat1, one, Go.AM.splice, Nat.reduceLeDiff, vsh, vbin, vun, vconv, fput, Nat.reduceEqDiff, ↓reduceIte, reduceCtorEq, Int.reduceToNat, Int.reduceLE, Int.reduceLT, Nat.reduceAdd, Nat.reduceMul, ff_3]
    repeat (first | apply WK.seq | apply WK.block | apply WK.skipSeq | apply WK.skipBlock | apply WK.retSeq | apply WK.retBlock | apply WK.exitSeq | apply WK.exitHere | refine WK.exitOn rfl ?_ | ((first | (refine WK.rgn ?_ ?_; kernel_rfl) | refine AtCall.now ?_); simp (config := { maxSteps := 1000000 }) only [SS, forall_const, wx, tguard, acallee, top, tval, tor, tload, tload2, tload3, tstore, tstore2, tstore3, tidx, tidx2, tfa, tfa2, tlen2, tpick, textr, tbox, talloc, tmake, tbuild, tbs, tbs2, tfld, tfld2, tsl, tsl2, tsl3, tix, tix1, tix2, tap, tap2, tap3, tap4, tsrc, tsrc2, Int.reduceEq, Int.reduceNeg, Go.AM.bound, afill, Nat.reduceGT, Nat.reduceLT, still, still1, flat1, one, Go.AM.splice, Nat.reduceLeDiff, vsh, vbin, vun, vconv, fput, Nat.reduceEqDiff, ↓reduceIte, reduceCtorEq, Int.reduceToNat, Int.reduceLE, Int.reduceLT, Nat.reduceAdd, Nat.reduceMul, ff_3]) | (refine WK.condT ?_ ?_; focus (simp only [ev_tmp, ev_const, fset_apply, Nat.reduceEqDiff, ↓reduceIte, decide_true, decide_false, ff_3]; done)) | (refine WK.condF ?_ ?_; focus (simp only [ev_tmp, ev_const, fset_apply, Nat.reduceEqDiff, ↓reduceIte, decide_true, decide_false, ff_3]; done)))
    (first | refine WK.retNil ⟨Or.inr rfl, _, rfl, ?_, ?_⟩ | refine WK.skipNil ⟨Or.inl rfl, _, rfl, ?_, ?_⟩)
    · exact (hk.trans k2).keep
    · simp only [packed, fset_apply, Nat.reduceEqDiff, ↓reduceIte, List.getD_cons_zero, List.getD_cons_succ, ff_3]
  have kk2 := hk.trans k2
  have hb2 := (k2.keep n (by omega)).trans hb
  simp (config := { maxSteps := 1000000 }) only [SS, forall_const, wx, tguard, acallee, top, tval, tor, tload, tload2, tload3, tstore, tstore2, tstore3, tidx, tidx2, tfa, tfa2, tlen2, tpick, textr, tbox, talloc, tmake, tbuild, tbs, tbs2, tfld, tfld2, tsl, tsl2, tsl3, tix, tix1, tix2, tap, tap2, tap3, tap4, tsrc, tsrc2, Int.reduceEq, Int.reduceNeg, Go.AM.bound, afill, Nat.reduceGT, Nat.reduceLT, still, still1, flat1, one, Go.AM.splice, Nat.reduceLeDiff, vsh, vbin, vun, vconv, fput, Nat.reduceEqDiff, ↓reduceIte, reduceCtorEq, Int.reduceToNat, Int.reduceLE, Int.reduceLT, Nat.reduceAdd, Nat.reduceMul, hb2, gc_len, gc_all, ff_3]
  refine AtCall.by (right_gives (kk2.wf hw) (hg0.mono hw kk2) wg) ?_
  rintro v n3 H3 k3 ⟨t, rfl, hok⟩
  have kk3 := kk2.trans k3
  cases t
  · simp (config := { maxSteps := 1000000 }) only [SS, forall_const, wx, tguard, acallee, top, tval, tor, tload, tload2, tload3, tstore, tstore2, tstore3, tidx, tidx2, tfa, tfa2, tlen2, tpick, textr, tbox, talloc, tmake, tbuild, tbs, tbs2, tfld, tfld2, tsl, tsl2, tsl3, tix, tix1, tix2, tap, tap2, tap3, tap4, tsrc, tsrc2, Int.reduceEq, Int.reduceNeg, Go.AM.bound, afill, Nat.reduceGT, Nat.reduceLT, still, still1, flat1, one, Go.AM.splice, Nat.reduceLeDiff, vsh, vbin, vun, vconv, fput, Nat.reduceEqDiff, ↓reduceIte, reduceCtorEq, Int.reduceToNat, Int.reduceLE, Int.reduceLT, Nat.reduceAdd, Nat.reduceMul, ff_3]
    repeat (first | apply WK.seq | apply WK.block | apply WK.skipSeq | apply WK.skipBlock | apply WK.retSeq | apply WK.retBlock | apply WK.exitSeq | apply WK.exitHere | refine WK.exitOn rfl ?_ | ((first | (refine WK.rgn ?_ ?_; kernel_rfl) | refine AtCall.now ?_); simp (config := { maxSteps := 1000000 }) only [SS, forall_const, wx, tguard, acallee, top, tval, tor, tload, tload2, tload3, tstore, tstore2, tstore3, tidx, tidx2, tfa, tfa2, tlen2, tpick, textr, tbox, talloc, tmake, tbuild, tbs, tbs2, tfld, tfld2, tsl, tsl2, tsl3, tix, tix1, tix2, tap, tap2, tap3, tap4, tsrc, tsrc2, Int.reduceEq, Int.reduceNeg, Go.AM.bound, afill, Nat.reduceGT, Nat.reduceLT, still, still1, flat1, one, Go.AM.splice, Nat.reduceLeDiff, vsh, vbin, vun, vconv, fput, Nat.reduceEqDiff, ↓reduceIte, reduceCtorEq, Int.reduceToNat, Int.reduceLE, Int.reduceLT, Nat.reduceAdd, Nat.reduceMul, ff_3]) | (refine WK.condT ?_ ?_; focus (simp only [ev_tmp, ev_const, fset_apply, Nat.reduceEqDiff, ↓reduceIte, decide_true, decide_false, ff_3]; done)) | (refine WK.condF ?_ ?_; focus (simp only [ev_tmp, ev_const, fset_apply, Nat.reduceEqDiff, ↓reduceIte, decide_true, decide_false, ff_3]; done)))
    (first | refine WK.retNil ⟨Or.inr rfl, _, rfl, ?_, ?_⟩ | refine WK.skipNil ⟨Or.inl rfl, _, rfl, ?_, ?_⟩)
    · exact kk3.keep
    · simp only [packed, fset_apply, Nat.reduceEqDiff, ↓reduceIte, List.getD_cons_zero, List.getD_cons_succ, ff_3]
  have ok := hok rfl
  have hi := ok.inG
  have hv64 := ok.vars
  have hv1 := ok.vars1
  have hn3 := kk3.le
  have hn2 := k2.le
  have hn3' := k3.le
  have hb3 := (k3.keep n (by omega)).trans hb2
  simp (config := { maxSteps := 1000000 }) only [SS, forall_const, wx, tguard, acallee, top, tval, tor, tload, tload2, tload3, tstore, tstore2, tstore3, tidx, tidx2, tfa, tfa2, tlen2, tpick, textr, tbox, talloc, tmake, tbuild, tbs, tbs2, tfld, tfld2, tsl, tsl2, tsl3, tix, tix1, tix2, tap, tap2, tap3, tap4, tsrc, tsrc2, Int.reduceEq, Int.reduceNeg, Go.AM.bound, afill, Nat.reduceGT, Nat.reduceLT, still, still1, flat1, one, Go.AM.splice, Nat.reduceLeDiff, vsh, vbin, vun, vconv, fput, Nat.reduceEqDiff, ↓reduceIte, reduceCtorEq, Int.reduceToNat, Int.reduceLE, Int.reduceLT, Nat.reduceAdd, Nat.reduceMul, ff_3]
  repeat (first | apply WK.seq | apply WK.block | apply WK.skipSeq | apply WK.skipBlock | apply WK.retSeq | apply WK.retBlock | apply WK.exitSeq | apply WK.exitHere | refine WK.exitOn rfl ?_)
  first | (refine WK.condT ?_ ?_; focus (simp only [ev_tmp, ev_const, fset_apply, Nat.reduceEqDiff, ↓reduceIte, decide_true, decide_false]; done)) | (refine WK.condF ?_ ?_; focus (simp only [ev_tmp, ev_const, fset_apply, Nat.reduceEqDiff, ↓reduceIte, decide_true, decide_false]; done))
  repeat (first | apply WK.seq | apply WK.block | apply WK.skipSeq | apply WK.skipBlock | apply WK.retSeq | apply WK.retBlock | apply WK.exitSeq | apply WK.exitHere | refine WK.exitOn rfl ?_)
  (refine WK.rgn ?_ ?_; kernel_rfl; simp (config := { maxSteps := 1000000 }) only [SS, forall_const, wx, tguard, acallee, top, tval, tor, tload, tload2, tload3, tstore, tstore2, tstore3, tidx, tidx2, tfa, tfa2, tlen2, tpick, textr, tbox, talloc, tmake, tbuild, tbs, tbs2, tfld, tfld2, tsl, tsl2, tsl3, tix, tix1, tix2, tap, tap2, tap3, tap4, tsrc, tsrc2, Int.reduceEq, Int.reduceNeg, Go.AM.bound, afill, Nat.reduceGT, Nat.reduceLT, still, still1, flat1, one, Go.AM.splice, Nat.reduceLeDiff, vsh, vbin, vun, vconv, fput, Nat.reduceEqDiff, ↓reduceIte, reduceCtorEq, Int.reduceToNat, Int.reduceLE, Int.reduceLT, Nat.reduceAdd, Nat.reduceMul, hb3, gc_len, gc_all, ff_3])
  refine AtCall.by (reachR_gives (kk3.wf hw) (hg0.mono hw kk3) wg ok) ?_
  rintro v n4 H4 k4 ⟨rows, yr, xr, hxr0, rfl, L4, hrl, hlen, hR⟩
  have kk4 := kk3.trans k4
  have hn4 := k4.le
  have hb4 := (k4.keep n (by omega)).trans hb3
  simp (config := { maxSteps := 1000000 }) only [SS, forall_const, wx, tguard, acallee, top, tval, tor, tload, tload2, tload3, tstore, tstore2, tstore3, tidx, tidx2, tfa, tfa2, tlen2, tpick, textr, tbox, talloc, tmake, tbuild, tbs, tbs2, tfld, tfld2, tsl, tsl2, tsl3, tix, tix1, tix2, tap, tap2, tap3, tap4, tsrc, tsrc2, Int.reduceEq, Int.reduceNeg, Go.AM.bound, afill, Nat.reduceGT, Nat.reduceLT, still, still1, flat1, one, Go.AM.splice, Nat.reduceLeDiff, vsh, vbin, vun, vconv, fput, Nat.reduceEqDiff, ↓reduceIte, reduceCtorEq, Int.reduceToNat, Int.reduceLE, Int.reduceLT, Nat.reduceAdd, Nat.reduceMul, ff_3]
  repeat (first | apply WK.seq | apply WK.block | apply WK.skipSeq | apply WK.skipBlock | apply WK.retSeq | apply WK.retBlock | apply WK.exitSeq | apply WK.exitHere | refine WK.exitOn rfl ?_)
  (refine WK.rgn ?_ ?_; kernel_rfl; simp (config := { maxSteps := 1000000 }) only [SS, forall_const, wx, tguard, acallee, top, tval, tor, tload, tload2, tload3, tstore, tstore2, tstore3, tidx, tidx2, tfa, tfa2, tlen2, tpick, textr, tbox, talloc, tmake, tbuild, tbs, tbs2, tfld, tfld2, tsl, tsl2, tsl3, tix, tix1, tix2, tap, tap2, tap3, tap4, tsrc, tsrc2, Int.reduceEq, Int.reduceNeg, Go.AM.bound, afill, Nat.reduceGT, Nat.reduceLT, still, still1, flat1, one, Go.AM.splice, Nat.reduceLeDiff, vsh, vbin, vun, vconv, fput, Nat.reduceEqDiff, ↓reduceIte, reduceCtorEq, Int.reduceToNat, Int.reduceLE, Int.reduceLT, Nat.reduceAdd, Nat.reduceMul, hb4, gc_len, gc_all, ff_3])
  refine AtCall.by (recursive_gives (kk4.wf hw) (hg0.mono hw kk4) wg ok) ?_
  rintro v n5 H5 k5 ⟨rc, xc, hxc0, rfl, hxc, hrc, hrec⟩
  have kk5 := kk4.trans k5
  have hn5 := k5.le
  have hb5 := (k5.keep n (by omega)).trans hb4
  have L5 := L4.kp (kk4.wf hw) k5
  simp (config := { maxSteps := 1000000 }) only [SS, forall_const, wx, tguard, acallee, top, tval, tor, tload, tload2, tload3, tstore, tstore2, tstore3, tidx, tidx2, tfa, tfa2, tlen2, tpick, textr, tbox, talloc, tmake, tbuild, tbs, tbs2, tfld, tfld2, tsl, tsl2, tsl3, tix, tix1, tix2, tap, tap2, tap3, tap4, tsrc, tsrc2, Int.reduceEq, Int.reduceNeg, Go.AM.bound, afill, Nat.reduceGT, Nat.reduceLT, still, still1, flat1, one, Go.AM.splice, Nat.reduceLeDiff, vsh, vbin, vun, vconv, fput, Nat.reduceEqDiff, ↓reduceIte, reduceCtorEq, Int.reduceToNat, Int.reduceLE, Int.reduceLT, Nat.reduceAdd, Nat.reduceMul, ff_3]
  repeat (first | apply WK.seq | apply WK.block | apply WK.skipSeq | apply WK.skipBlock | apply WK.retSeq | apply WK.retBlock | apply WK.exitSeq | apply WK.exitHere | refine WK.exitOn rfl ?_)
  (refine WK.rgn ?_ ?_; kernel_rfl; simp (config := { maxSteps := 1000000 }) only [SS, forall_const, wx, tguard, acallee, top, tval, tor, tload, tload2, tload3, tstore, tstore2, tstore3, tidx, tidx2, tfa, tfa2, tlen2, tpick, textr, tbox, talloc, tmake, tbuild, tbs, tbs2, tfld, tfld2, tsl, tsl2, tsl3, tix, tix1, tix2, tap, tap2, tap3, tap4, tsrc, tsrc2, Int.reduceEq, Int.reduceNeg, Go.AM.bound, afill, Nat.reduceGT, Nat.reduceLT, still, still1, flat1, one, Go.AM.splice, Nat.reduceLeDiff, vsh, vbin, vun, vconv, fput, Nat.reduceEqDiff, ↓reduceIte, reduceCtorEq, Int.reduceToNat, Int.reduceLE, Int.reduceLT, Nat.reduceAdd, Nat.reduceMul, hb5, gc_len, gc_all, ff_3])
  refine AtCall.by (groups_gives (kk5.wf hw) (hg0.mono hw kk5) wg ok) ?_
  rintro v n6 H6 k6 ⟨R, xg, yg, hRR, rfl, hLL⟩
  have kk6 := kk5.trans k6
  have hn6 := k6.le
  have hb6 := (k6.keep n (by omega)).trans hb5
  have L6 := L5.kp (kk5.wf hw) k6
  have hxc6 := (k6.keep _ (live_lt (kk5.wf hw) (live_of hxc))).trans hxc
  rw [sl_eq]
  simp (config := { maxSteps := 1000000 }) only [SS, forall_const, wx, tguard, acallee, top, tval, tor, tload, tload2, tload3, tstore, tstore2, tstore3, tidx, tidx2, tfa, tfa2, tlen2, tpick, textr, tbox, talloc, tmake, tbuild, tbs, tbs2, tfld, tfld2, tsl, tsl2, tsl3, tix, tix1, tix2, tap, tap2, tap3, tap4, tsrc, tsrc2, Int.reduceEq, Int.reduceNeg, Go.AM.bound, afill, Nat.reduceGT, Nat.reduceLT, still, still1, flat1, one, Go.AM.splice, Nat.reduceLeDiff, vsh, vbin, vun, vconv, fput, Nat.reduceEqDiff, ↓reduceIte, reduceCtorEq, Int.reduceToNat, Int.reduceLE, Int.reduceLT, Nat.reduceAdd, Nat.reduceMul, hb6, gc_len, gc_all, ff_3]
  refine AtCall.by (groupsR_gives (kk6.wf hw) (hg0.mono hw kk6) wg ok) ?_
  rintro v n7 H7 k7 ⟨R', xg', yg', hRR', hxg0, rfl, LR⟩
  have kk7 := kk6.trans k7
  have L7 := L6.kp (kk6.wf hw) k7
  have hxc7 := (k7.keep _ (live_lt (kk6.wf hw) (live_of hxc6))).trans hxc6
  obtain rfl : R' = R := RchB_ext hRR' hRR
  have hLL7 : groupsS R' g.vars.length g.vars.length ≠ [] → LL n5 H7 xg 35 3 ic (groupsS R' g.vars.length g.vars.length) yg := fun h => (hLL h).2.kp (kk6.wf hw) k7
  have hgl : (groupsS R' g.vars.length g.vars.length).length ≤ 64 := by
    unfold groupsS
    rw [List.length_map]
    have := List.length_filter_le (leader R') (List.range g.vars.length)
    rw [List.length_range] at this
    omega
  have hll : ∀ l, l ∈ groupsS R' g.vars.length g.vars.length → l.length ≤ 64 := fun l hl => by have := groupsS_len hl; omega
  have key : Gives Try.prog 12 [.slice (slp xg (groupsS R' g.vars.length g.vars.length).length) (groupsS R' g.vars.length g.vars.length).length (groupsS R' g.vars.length g.vars.length).length, .slice (some ⟨xg', 0, none⟩) (groupsS R' g.vars.length g.vars.length).length (groupsS R' g.vars.length g.vars.length).length] n7 H7 fun v n' H' => v = .bool true ∧ n' = n7 ∧ H' = H7 := by
    have h := alike_gives (n := n7) (H := H7) (p := slp xg (groupsS R' g.vars.length g.vars.length).length) (q := some ⟨xg', 0, none⟩) (va := llcells yg (groupsS R' g.vars.length g.vars.length)) (vb := llcells yg' (groupsS R' g.vars.length g.vars.length)) (ls := (groupsS R' g.vars.length g.vars.length).map fun l => l.map fun u : Nat => (u : Int))
      (llcells_RA hLL7) (fun _ => ⟨xg', 0, _, _, _, rfl, LR.hx, fun i y e => by rw [Nat.zero_add]; exact e⟩) (by rw [llcells_length, List.length_map]) (by rw [llcells_length, List.length_map]) (by rw [List.length_map]; omega)
      (fun i h => by
        rw [List.length_map] at h
        have hne : groupsS R' g.vars.length g.vars.length ≠ [] := by intro e; rw [e] at h; simp at h
        have hm := hll _ (List.getElem_mem h)
        rw [List.getElem_map, List.length_map]
        refine ⟨by unfold maxL; omega, _, ?_, ints_RA (hLL7 hne) h⟩
        rw [(hLL7 hne).at h, sl_eq])
      (fun i h => by
        rw [List.length_map] at h
        rw [List.getElem_map, List.length_map]
        refine ⟨_, ?_, ints_RA LR h⟩
        rw [LR.at h, sl_eq])
    rw [llcells_length, llcells_length] at h
    exact h
  simp (config := { maxSteps := 1000000 }) only [SS, forall_const, wx, tguard, acallee, top, tval, tor, tload, tload2, tload3, tstore, tstore2, tstore3, tidx, tidx2, tfa, tfa2, tlen2, tpick, textr, tbox, talloc, tmake, tbuild, tbs, tbs2, tfld, tfld2, tsl, tsl2, tsl3, tix, tix1, tix2, tap, tap2, tap3, tap4, tsrc, tsrc2, Int.reduceEq, Int.reduceNeg, Go.AM.bound, afill, Nat.reduceGT, Nat.reduceLT, still, still1, flat1, one, Go.AM.splice, Nat.reduceLeDiff, vsh, vbin, vun, vconv, fput, Nat.reduceEqDiff, ↓reduceIte, reduceCtorEq, Int.reduceToNat, Int.reduceLE, Int.reduceLT, Nat.reduceAdd, Nat.reduceMul, ff_3]
  refine AtCall.by key ?_
  rintro v n8 H8 k8 ⟨rfl, rfl, rfl⟩
  simp (config := { maxSteps := 1000000 }) only [SS, forall_const, wx, tguard, acallee, top, tval, tor, tload, tload2, tload3, tstore, tstore2, tstore3, tidx, tidx2, tfa, tfa2, tlen2, tpick, textr, tbox, talloc, tmake, tbuild, tbs, tbs2, tfld, tfld2, tsl, tsl2, tsl3, tix, tix1, tix2, tap, tap2, tap3, tap4, tsrc, tsrc2, Int.reduceEq, Int.reduceNeg, Go.AM.bound, afill, Nat.reduceGT, Nat.reduceLT, still, still1, flat1, one, Go.AM.splice, Nat.reduceLeDiff, vsh, vbin, vun, vconv, fput, Nat.reduceEqDiff, ↓reduceIte, reduceCtorEq, Int.reduceToNat, Int.reduceLE, Int.reduceLT, Nat.reduceAdd, Nat.reduceMul, ff_3]
  repeat (first | apply WK.seq | apply WK.block | apply WK.skipSeq | apply WK.skipBlock | apply WK.retSeq | apply WK.retBlock | apply WK.exitSeq | apply WK.exitHere | refine WK.exitOn rfl ?_ | ((first | (refine WK.rgn ?_ ?_; kernel_rfl) | refine AtCall.now ?_); simp (config := { maxSteps := 1000000 }) only [SS, forall_const, wx, tguard, acallee, top, tval, tor, tload, tload2, tload3, tstore, tstore2, tstore3, tidx, tidx2, tfa, tfa2, tlen2, tpick, textr, tbox, talloc, tmake, tbuild, tbs, tbs2, tfld, tfld2, tsl, tsl2, tsl3, tix, tix1, tix2, tap, tap2, tap3, tap4, tsrc, tsrc2, Int.reduceEq, Int.reduceNeg, Go.AM.bound, afill, Nat.reduceGT, Nat.reduceLT, still, still1, flat1, one, Go.AM.splice, Nat.reduceLeDiff, vsh, vbin, vun, vconv, fput, Nat.reduceEqDiff, ↓reduceIte, reduceCtorEq, Int.reduceToNat, Int.reduceLE, Int.reduceLT, Nat.reduceAdd, Nat.reduceMul, ff_3]) | (refine WK.condT ?_ ?_; focus (simp only [ev_tmp, ev_const, fset_apply, Nat.reduceEqDiff, ↓reduceIte, decide_true, decide_false, ff_3]; done)) | (refine WK.condF ?_ ?_; focus (simp only [ev_tmp, ev_const, fset_apply, Nat.reduceEqDiff, ↓reduceIte, decide_true, decide_false, ff_3]; done)))
  have hxr7 := L7.hx
  refine WK.loop (fun k s => ∃ i, s.n = n8 ∧ s.H = H8 ∧ s.f 3 = .slice (some ⟨xr, 0, none⟩) g.vars.length g.vars.length ∧ s.f 4 = .slice (some ⟨xc, 0, none⟩) g.vars.length g.vars.length ∧ s.f 34 = .int .i64 g.vars.length ∧ s.f 35 = .int .i64 (i : Nat) ∧ i ≤ g.vars.length ∧ k = g.vars.length - i) g.vars.length ?_ ?_
  · exact ⟨0, rfl, rfl, rfl, rfl, rfl, rfl, Nat.zero_le _, rfl⟩
  rintro kk ⟨f, n9, H9⟩ ⟨i, rfl, rfl, f3, f4, f34, f35, hiv, rfl⟩ ih
  simp only at f3 f4 f34 f35 ih hxr7 L7 hxc7
  by_cases hil : i < g.vars.length
  · have hiw : IntKind.i64.wrap ((i : Int) + 1) = ((i + 1 : Nat) : Int) := by rw [wrap_in (by omega) (by omega)]; rfl
    have hir : i < rows.length := by omega
    have hl := hlen _ (List.getElem_mem hir)
    have hrn : rows[i] ≠ [] := by intro e; rw [e] at hl; simp at hl; omega
    have hrow0 := L7.at hir
    rw [sl_pos (by rw [hl]; omega), hl] at hrow0
    have hyi := L7.hy i hir hrn
    rw [flat_bc] at hyi
    have hlt : i < rows[i].length := by rw [hl]; exact hil
    have hgi : (rows[i].map Value.bool)[i]? = some (.bool rows[i][i]) := by rw [List.getElem?_map, List.getElem?_eq_getElem hlt]; rfl
    have hic : i < rc.length := by omega
    have hgc : (rc.map Value.bool)[i]? = some (.bool rc[i]) := by rw [List.getElem?_map, List.getElem?_eq_getElem hic]; rfl
    have he : rc[i] = rows[i][i] := by
      rw [Bool.eq_iff_iff, hrec i hic, ← hR i i, rowsB_at hir hlt]
    rw [he] at hgc
    cases hb9 : rows[i][i]
    · rw [hb9] at hgi hgc
      repeat (first | apply WK.seq | apply WK.block | apply WK.skipSeq | apply WK.skipBlock | apply WK.retSeq | apply WK.retBlock | apply WK.exitSeq | apply WK.exitHere | refine WK.exitOn rfl ?_ | ((first | (refine WK.rgn ?_ ?_; kernel_rfl) | refine AtCall.now ?_); simp (config := { maxSteps := 1000000 }) only [SS, forall_const, wx, tguard, acallee, top, tval, tor, tload, tload2, tload3, tstore, tstore2, tstore3, tidx, tidx2, tfa, tfa2, tlen2, tpick, textr, tbox, talloc, tmake, tbuild, tbs, tbs2, tfld, tfld2, tsl, tsl2, tsl3, tix, tix1, tix2, tap, tap2, tap3, tap4, tsrc, tsrc2, Int.reduceEq, Int.reduceNeg, Go.AM.bound, afill, Nat.reduceGT, Nat.reduceLT, still, still1, flat1, one, Go.AM.splice, Nat.reduceLeDiff, vsh, vbin, vun, vconv, fput, Nat.reduceEqDiff, ↓reduceIte, reduceCtorEq, Int.reduceToNat, Int.reduceLE, Int.reduceLT, Nat.reduceAdd, Nat.reduceMul, f3, f4, f34, f35, hil, hxr7, hrow0, hyi, hgi, hxc7, hgc, ff_3]) | (refine WK.condT ?_ ?_; focus (simp only [ev_tmp, ev_const, fset_apply, Nat.reduceEqDiff, ↓reduceIte, decide_true, decide_false, f3, f4, f34, f35, hil, hxr7, hrow0, hyi, hgi, hxc7, hgc, ff_3]; done)) | (refine WK.condF ?_ ?_; focus (simp only [ev_tmp, ev_const, fset_apply, Nat.reduceEqDiff, ↓reduceIte, decide_true, decide_false, f3, f4, f34, f35, hil, hxr7, hrow0, hyi, hgi, hxc7, hgc, ff_3]; done)))
      refine ih (g.vars.length - (i + 1)) (by omega) _ ⟨i + 1, rfl, rfl, f3, f4, f34, ?_, hil, rfl⟩
      simp only [packed, fset_apply, Nat.reduceEqDiff, ↓reduceIte, List.getD_cons_zero, List.getD_cons_succ, f35, hiw, ff_3]
    · rw [hb9] at hgi hgc
      repeat (first | apply WK.seq | apply WK.block | apply WK.skipSeq | apply WK.skipBlock | apply WK.retSeq | apply WK.retBlock | apply WK.exitSeq | apply WK.exitHere | refine WK.exitOn rfl ?_ | ((first | (refine WK.rgn ?_ ?_; kernel_rfl) | refine AtCall.now ?_); simp (config := { maxSteps := 1000000 }) only [SS, forall_const, wx, tguard, acallee, top, tval, tor, tload, tload2, tload3, tstore, tstore2, tstore3, tidx, tidx2, tfa, tfa2, tlen2, tpick, textr, tbox, talloc, tmake, tbuild, tbs, tbs2, tfld, tfld2, tsl, tsl2, tsl3, tix, tix1, tix2, tap, tap2, tap3, tap4, tsrc, tsrc2, Int.reduceEq, Int.reduceNeg, Go.AM.bound, afill, Nat.reduceGT, Nat.reduceLT, still, still1, flat1, one, Go.AM.splice, Nat.reduceLeDiff, vsh, vbin, vun, vconv, fput, Nat.reduceEqDiff, ↓reduceIte, reduceCtorEq, Int.reduceToNat, Int.reduceLE, Int.reduceLT, Nat.reduceAdd, Nat.reduceMul, f3, f4, f34, f35, hil, hxr7, hrow0, hyi, hgi, hxc7, hgc, ff_3]) | (refine WK.condT ?_ ?_; focus (simp only [ev_tmp, ev_const, fset_apply, Nat.reduceEqDiff, ↓reduceIte, decide_true, decide_false, f3, f4, f34, f35, hil, hxr7, hrow0, hyi, hgi, hxc7, hgc, ff_3]; done)) | (refine WK.condF ?_ ?_; focus (simp only [ev_tmp, ev_const, fset_apply, Nat.reduceEqDiff, ↓reduceIte, decide_true, decide_false, f3, f4, f34, f35, hil, hxr7, hrow0, hyi, hgi, hxc7, hgc, ff_3]; done)))
      refine ih (g.vars.length - (i + 1)) (by omega) _ ⟨i + 1, rfl, rfl, f3, f4, f34, ?_, hil, rfl⟩
      simp only [packed, fset_apply, Nat.reduceEqDiff, ↓reduceIte, List.getD_cons_zero, List.getD_cons_succ, f35, hiw, ff_3]
  · repeat (first | apply WK.seq | apply WK.block | apply WK.skipSeq | apply WK.skipBlock | apply WK.retSeq | apply WK.retBlock | apply WK.exitSeq | apply WK.exitHere | refine WK.exitOn rfl ?_ | ((first | (refine WK.rgn ?_ ?_; kernel_rfl) | refine AtCall.now ?_); simp (config := { maxSteps := 1000000 }) only [SS, forall_const, wx, tguard, acallee, top, tval, tor, tload, tload2, tload3, tstore, tstore2, tstore3, tidx, tidx2, tfa, tfa2, tlen2, tpick, textr, tbox, talloc, tmake, tbuild, tbs, tbs2, tfld, tfld2, tsl, tsl2, tsl3, tix, tix1, tix2, tap, tap2, tap3, tap4, tsrc, tsrc2, Int.reduceEq, Int.reduceNeg, Go.AM.bound, afill, Nat.reduceGT, Nat.reduceLT, still, still1, flat1, one, Go.AM.splice, Nat.reduceLeDiff, vsh, vbin, vun, vconv, fput, Nat.reduceEqDiff, ↓reduceIte, reduceCtorEq, Int.reduceToNat, Int.reduceLE, Int.reduceLT, Nat.reduceAdd, Nat.reduceMul, f34, f35, hil, ff_3]) | (refine WK.condT ?_ ?_; focus (simp only [ev_tmp, ev_const, fset_apply, Nat.reduceEqDiff, ↓reduceIte, decide_true, decide_false, f34, f35, hil, ff_3]; done)) | (refine WK.condF ?_ ?_; focus (simp only [ev_tmp, ev_const, fset_apply, Nat.reduceEqDiff, ↓reduceIte, decide_true, decide_false, f34, f35, hil, ff_3]; done)))
    (first | refine WK.retNil ⟨Or.inr rfl, _, rfl, ?_, ?_⟩ | refine WK.skipNil ⟨Or.inl rfl, _, rfl, ?_, ?_⟩)
    · exact kk7.keep
    · simp only [packed, fset_apply, Nat.reduceEqDiff, ↓reduceIte, List.getD_cons_zero, List.getD_cons_succ, ff_3]
end Go.Proofs.Ytplnndgdklfnfaa
