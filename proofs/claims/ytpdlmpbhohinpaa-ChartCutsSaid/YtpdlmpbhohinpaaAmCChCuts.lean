/- A part of a proof. Its conditions: none. -/
import Derived.Test.YtpdlmpbhohinpaaAmCChFew
import Derived.Test.YtpdlmpbhohinpaaAmCAliveN
import Derived.Test.YtpdlmpbhohinpaaAmD
import Derived.Test.YtpdlmpbhohinpaaAmC
import Derived.Test.YtpdlmpbhohinpaaAmCChLaw
set_option linter.all false
namespace Go.Proofs.Ytpdlmpbhohinpaa
open Go.AM Go.RowKit
set_option maxRecDepth 100000

theorem and255 (c : Int) : ∃ m : Nat, m ≤ 255 ∧ IntKind.i64.wrap ((BitVec.ofInt IntKind.i64.bits c &&& BitVec.ofInt IntKind.i64.bits 255).toNat : Int) = (m : Int) := by
  refine ⟨(BitVec.ofInt IntKind.i64.bits c &&& BitVec.ofInt IntKind.i64.bits 255).toNat, ?_, ?_⟩
  · rw [BitVec.toNat_and]
    exact Nat.le_trans Nat.and_le_right (Nat.le_of_eq rfl)
  · have : (BitVec.ofInt IntKind.i64.bits c &&& BitVec.ofInt IntKind.i64.bits 255).toNat ≤ 255 := by
      rw [BitVec.toNat_and]
      exact Nat.le_trans Nat.and_le_right (Nat.le_of_eq rfl)
    rw [wrap_i64n _ (by omega)]

theorem aop_slnil {P : Program} {f : Fr} {n : Nat} {H : Heap} {d : Option Nat} {t e : TypeId} {x h : Operand} {ty : TypeId} {p : String} {af : Array Edge} {gd : Option (Nat × Bool)} (he : P.underlying t = some (.slice e)) (hj : (P.info? e).isSome = true) (hx : evalA f x = .slice none 0 0) (hh : evalA f h = .int .i64 ((0 : Nat) : Int)) :
    aop P (evalA f) n H ⟨d, .slice t x none (some h) none, ty, p, af, gd⟩ = some { v := .slice none 0 0 } := by
  show (match evalA f x with | .slice a b c => aslice P H t (.slice a b c) (Option.map (evalA f) none) (Option.map (evalA f) (some h)) | .pointer a => _ | _ => _) = _
  rw [hx]
  show aslice P H t (.slice none 0 0) none (some (evalA f h)) = _
  rw [hh]
  unfold aslice
  rw [he]
  obtain ⟨j, hj⟩ := Option.isSome_iff_exists.1 hj
  simp only [hj]
  rfl

theorem inf_int : (Try.prog.info? 3).isSome = true := by kernel_rfl

/-- A list of an argument lies in an object that is not a made one. -/
def AO (H : Heap) (p : Option Addr) : Prop := ∀ x k sp, p = some ⟨x, k, sp⟩ → ∀ cs ty own, H x = .cells cs ty own → own = false
theorem intsO {P : Program} {H : Heap} {t e : TypeId} {p : Option Addr} {m c : Nat} (ht : P.underlying t = some (.slice e)) (ha : aggT P t = some false) (h : ARV P H t (.slice p m c)) : AO H p := by
  intro x k sp hp cs ty own hx
  subst hp
  obtain ⟨h1, _, h3⟩ := h
  rw [vcells_one (h3 ha)] at h1
  rcases h1.slice_inv ht with h4 | ⟨y, m, ds, e4, hy, _⟩
  · simp at h4
  · simp at e4
    obtain ⟨⟨rfl, rfl, rfl⟩, _⟩ := e4
    rw [hy] at hx
    cases hx
    rfl

theorem AO.kp {α : Type} {enc : α → Value} {n n' : Nat} {H H' : Heap} {p : Option Addr} {l : List α} (h : AO H p) (hw : WF n H) (k : Kp n H n' H') (hs : RS enc H p l) : AO H' p := by
  intro x kk sp hp cs ty own hx
  rcases hs with ⟨rfl, _⟩ | ⟨x2, k2, cs2, ty2, own2, e1, e2, _⟩
  · cases hp
  · have hp' := hp
    rw [e1] at hp'
    cases hp'
    have := (k.keep x (Classical.byContradiction fun hc => by rw [hw x (by omega)] at e2; cases e2)).trans e2
    rw [hx] at this
    cases this
    exact h x _ _ hp _ _ _ e2

set_option maxHeartbeats 16000000 in
theorem cuts_gives {v : Value} {g : Gram} {a : Option Addr} {w : List Int} {cut : Int} {n : Nat} {H : Heap} (hw : WF n H) (hg : RG H v g) (wg : WG g) (ha : RS (Value.int .i64) H a w) (hao : AO H a) (hwl : w.length ≤ maxL) (hi : ∀ t ∈ w, inI t) :
    Gives Try.prog 5 [v, .slice a w.length w.length, .int .i64 cut] n H fun v _ _ => v = .bool true := by
  have hg0 := hg
  obtain ⟨pt, pv, pr, rfl, ht, hv, hr⟩ := hg
  refine Gives.of orders ok5 (Nat.le_of_ble_eq_true rfl) ?_
  have hk := Kp.new n H (.cells (gcells pt pv pr g) 25 true)
  have hb := hset_at H n (.cells (gcells pt pv pr g) 25 true)
-- function 5
  repeat (first | apply WK.seq | apply WK.block | apply WK.skipSeq | apply WK.skipBlock | apply WK.retSeq | apply WK.retBlock | apply WK.exitSeq | apply WK.exitHere | refine WK.exitOn rfl ?_)
  (refine WK.rgn ?_ ?_; kernel_rfl; simp (config := { maxSteps := 1000000 }) only [SS, forall_const, wx, tguard, acallee, top, tval, fput, tor, vsh, vbin, vun, tload, tload2, tload3, tlen2, tpick, tbox, one, tbs, tbs2, afill, Go.AM.splice, tsl, tsl2, tsl3, tsl4, tsl5, Go.AM.bound, tap, tap2, tap3, tap4, tsrc, tsrc2, Int.reduceEq, Int.reduceNeg, Nat.reduceGT, Nat.reduceLT, Nat.reduceLeDiff, Nat.reduceEqDiff, ↓reduceIte, reduceCtorEq, Int.reduceToNat, Int.reduceLE, Int.reduceLT, Nat.reduceAdd, Nat.reduceMul, box_cells, box_one, ff_5])
  generalize hset H n (.cells (gcells pt pv pr g) 25 true) = H1 at *
  repeat (first | apply WK.seq | apply WK.block | apply WK.skipSeq | apply WK.skipBlock | apply WK.retSeq | apply WK.retBlock | apply WK.exitSeq | apply WK.exitHere | refine WK.exitOn rfl ?_ | ((first | (refine WK.rgn ?_ ?_; kernel_rfl) | refine AtCall.now ?_); simp (config := { maxSteps := 1000000 }) only [SS, forall_const, wx, tguard, acallee, top, tval, fput, tor, vsh, vbin, vun, tload, tload2, tload3, tlen2, tpick, tbox, one, tbs, tbs2, afill, Go.AM.splice, tsl, tsl2, tsl3, tsl4, tsl5, Go.AM.bound, tap, tap2, tap3, tap4, tsrc, tsrc2, Int.reduceEq, Int.reduceNeg, Nat.reduceGT, Nat.reduceLT, Nat.reduceLeDiff, Nat.reduceEqDiff, ↓reduceIte, reduceCtorEq, Int.reduceToNat, Int.reduceLE, Int.reduceLT, Nat.reduceAdd, Nat.reduceMul, ff_5]) | (refine WK.condT ?_ ?_; focus (simp only [ev_tmp, ev_const, fset_apply, Nat.reduceEqDiff, ↓reduceIte, decide_true, decide_false, ff_5]; done)) | (refine WK.condF ?_ ?_; focus (simp only [ev_tmp, ev_const, fset_apply, Nat.reduceEqDiff, ↓reduceIte, decide_true, decide_false, ff_5]; done)))
  refine AtCall.by (alive_gives _ _) ?_
  rintro v n' H' hk' ⟨rfl, rfl, rfl⟩
  simp (config := { maxSteps := 1000000 }) only [SS, forall_const, wx, tguard, acallee, top, tval, fput, tor, vsh, vbin, vun, tload, tload2, tload3, tlen2, tpick, tbox, one, tbs, tbs2, afill, Go.AM.splice, tsl, tsl2, tsl3, tsl4, tsl5, Go.AM.bound, tap, tap2, tap3, tap4, tsrc, tsrc2, Int.reduceEq, Int.reduceNeg, Nat.reduceGT, Nat.reduceLT, Nat.reduceLeDiff, Nat.reduceEqDiff, ↓reduceIte, reduceCtorEq, Int.reduceToNat, Int.reduceLE, Int.reduceLT, Nat.reduceAdd, Nat.reduceMul, ff_5]
  repeat (first | apply WK.seq | apply WK.block | apply WK.skipSeq | apply WK.skipBlock | apply WK.retSeq | apply WK.retBlock | apply WK.exitSeq | apply WK.exitHere | refine WK.exitOn rfl ?_)
  first | (refine WK.condT ?_ ?_; focus (simp only [ev_tmp, ev_const, fset_apply, Nat.reduceEqDiff, ↓reduceIte, decide_true, decide_false]; done)) | (refine WK.condF ?_ ?_; focus (simp only [ev_tmp, ev_const, fset_apply, Nat.reduceEqDiff, ↓reduceIte, decide_true, decide_false]; done))
  repeat (first | apply WK.seq | apply WK.block | apply WK.skipSeq | apply WK.skipBlock | apply WK.retSeq | apply WK.retBlock | apply WK.exitSeq | apply WK.exitHere | refine WK.exitOn rfl ?_)
  (refine WK.rgn ?_ ?_; kernel_rfl; simp (config := { maxSteps := 1000000 }) only [SS, forall_const, wx, tguard, acallee, top, tval, fput, tor, vsh, vbin, vun, tload, tload2, tload3, tlen2, tpick, tbox, one, tbs, tbs2, afill, Go.AM.splice, tsl, tsl2, tsl3, tsl4, tsl5, Go.AM.bound, tap, tap2, tap3, tap4, tsrc, tsrc2, Int.reduceEq, Int.reduceNeg, Nat.reduceGT, Nat.reduceLT, Nat.reduceLeDiff, Nat.reduceEqDiff, ↓reduceIte, reduceCtorEq, Int.reduceToNat, Int.reduceLE, Int.reduceLT, Nat.reduceAdd, Nat.reduceMul, hb, gc_len, gc_all, ff_5])
  refine AtCall.by (few17_gives (hk.wf hw) (hg0.mono hw hk) wg) ?_
  rintro v n2 H2 k2 ⟨t, rfl, hok⟩
  have kk2 := hk.trans k2
  have hb2 := (k2.keep n (by omega)).trans hb
  cases t with
  | false =>
    simp (config := { maxSteps := 1000000 }) only [SS, forall_const, wx, tguard, acallee, top, tval, fput, tor, vsh, vbin, vun, tload, tload2, tload3, tlen2, tpick, tbox, one, tbs, tbs2, afill, Go.AM.splice, tsl, tsl2, tsl3, tsl4, tsl5, Go.AM.bound, tap, tap2, tap3, tap4, tsrc, tsrc2, Int.reduceEq, Int.reduceNeg, Nat.reduceGT, Nat.reduceLT, Nat.reduceLeDiff, Nat.reduceEqDiff, ↓reduceIte, reduceCtorEq, Int.reduceToNat, Int.reduceLE, Int.reduceLT, Nat.reduceAdd, Nat.reduceMul, ff_5]
    repeat (first | apply WK.seq | apply WK.block | apply WK.skipSeq | apply WK.skipBlock | apply WK.retSeq | apply WK.retBlock | apply WK.exitSeq | apply WK.exitHere | refine WK.exitOn rfl ?_ | ((first | (refine WK.rgn ?_ ?_; kernel_rfl) | refine AtCall.now ?_); simp (config := { maxSteps := 1000000 }) only [SS, forall_const, wx, tguard, acallee, top, tval, fput, tor, vsh, vbin, vun, tload, tload2, tload3, tlen2, tpick, tbox, one, tbs, tbs2, afill, Go.AM.splice, tsl, tsl2, tsl3, tsl4, tsl5, Go.AM.bound, tap, tap2, tap3, tap4, tsrc, tsrc2, Int.reduceEq, Int.reduceNeg, Nat.reduceGT, Nat.reduceLT, Nat.reduceLeDiff, Nat.reduceEqDiff, ↓reduceIte, reduceCtorEq, Int.reduceToNat, Int.reduceLE, Int.reduceLT, Nat.reduceAdd, Nat.reduceMul, ff_5]) | (refine WK.condT ?_ ?_; focus (simp only [ev_tmp, ev_const, fset_apply, Nat.reduceEqDiff, ↓reduceIte, decide_true, decide_false, ff_5]; done)) | (refine WK.condF ?_ ?_; focus (simp only [ev_tmp, ev_const, fset_apply, Nat.reduceEqDiff, ↓reduceIte, decide_true, decide_false, ff_5]; done)))
    (first | refine WK.retNil ⟨Or.inr rfl, _, rfl, ?_, ?_⟩ | refine WK.skipNil ⟨Or.inl rfl, _, rfl, ?_, ?_⟩)
    · exact kk2.keep
    · simp only [packed, fset_apply, Nat.reduceEqDiff, ↓reduceIte, List.getD_cons_zero, List.getD_cons_succ, ff_5]
  | true =>
  obtain ⟨hf, ok⟩ := hok rfl
  by_cases h20 : (20 : Int) < w.length
  · simp (config := { maxSteps := 1000000 }) only [SS, forall_const, wx, tguard, acallee, top, tval, fput, tor, vsh, vbin, vun, tload, tload2, tload3, tlen2, tpick, tbox, one, tbs, tbs2, afill, Go.AM.splice, tsl, tsl2, tsl3, tsl4, tsl5, Go.AM.bound, tap, tap2, tap3, tap4, tsrc, tsrc2, Int.reduceEq, Int.reduceNeg, Nat.reduceGT, Nat.reduceLT, Nat.reduceLeDiff, Nat.reduceEqDiff, ↓reduceIte, reduceCtorEq, Int.reduceToNat, Int.reduceLE, Int.reduceLT, Nat.reduceAdd, Nat.reduceMul, h20, ff_5]
    repeat (first | apply WK.seq | apply WK.block | apply WK.skipSeq | apply WK.skipBlock | apply WK.retSeq | apply WK.retBlock | apply WK.exitSeq | apply WK.exitHere | refine WK.exitOn rfl ?_ | ((first | (refine WK.rgn ?_ ?_; kernel_rfl) | refine AtCall.now ?_); simp (config := { maxSteps := 1000000 }) only [SS, forall_const, wx, tguard, acallee, top, tval, fput, tor, vsh, vbin, vun, tload, tload2, tload3, tlen2, tpick, tbox, one, tbs, tbs2, afill, Go.AM.splice, tsl, tsl2, tsl3, tsl4, tsl5, Go.AM.bound, tap, tap2, tap3, tap4, tsrc, tsrc2, Int.reduceEq, Int.reduceNeg, Nat.reduceGT, Nat.reduceLT, Nat.reduceLeDiff, Nat.reduceEqDiff, ↓reduceIte, reduceCtorEq, Int.reduceToNat, Int.reduceLE, Int.reduceLT, Nat.reduceAdd, Nat.reduceMul, ff_5]) | (refine WK.condT ?_ ?_; focus (simp only [ev_tmp, ev_const, fset_apply, Nat.reduceEqDiff, ↓reduceIte, decide_true, decide_false, ff_5]; done)) | (refine WK.condF ?_ ?_; focus (simp only [ev_tmp, ev_const, fset_apply, Nat.reduceEqDiff, ↓reduceIte, decide_true, decide_false, ff_5]; done)))
    (first | refine WK.retNil ⟨Or.inr rfl, _, rfl, ?_, ?_⟩ | refine WK.skipNil ⟨Or.inl rfl, _, rfl, ?_, ?_⟩)
    · exact kk2.keep
    · simp only [packed, fset_apply, Nat.reduceEqDiff, ↓reduceIte, List.getD_cons_zero, List.getD_cons_succ, ff_5]
  obtain ⟨m, hm, hand⟩ := and255 cut
  have hw1 : IntKind.wrap .i64 ((w.length : Int) + 1) = ((w.length + 1 : Nat) : Int) := by rw [wrap_in (by omega) (by omega)]; rfl
  have htm : ((m : Nat) : Int).tmod ((w.length + 1 : Nat) : Int) = ((m % (w.length + 1) : Nat) : Int) := by
    rw [Int.tmod_eq_emod_of_nonneg (by omega)]; rfl
  have hcl : m % (w.length + 1) ≤ w.length := by have := Nat.mod_lt m (show 0 < w.length + 1 by omega); omega
  generalize m % (w.length + 1) = c at htm hcl
  simp (config := { maxSteps := 1000000 }) only [SS, forall_const, wx, tguard, acallee, top, tval, fput, tor, vsh, vbin, vun, tload, tload2, tload3, tlen2, tpick, tbox, one, tbs, tbs2, afill, Go.AM.splice, tsl, tsl2, tsl3, tsl4, tsl5, Go.AM.bound, tap, tap2, tap3, tap4, tsrc, tsrc2, Int.reduceEq, Int.reduceNeg, Nat.reduceGT, Nat.reduceLT, Nat.reduceLeDiff, Nat.reduceEqDiff, ↓reduceIte, reduceCtorEq, Int.reduceToNat, Int.reduceLE, Int.reduceLT, Nat.reduceAdd, Nat.reduceMul, h20, ff_5]
  repeat (first | apply WK.seq | apply WK.block | apply WK.skipSeq | apply WK.skipBlock | apply WK.retSeq | apply WK.retBlock | apply WK.exitSeq | apply WK.exitHere | refine WK.exitOn rfl ?_ | ((first | (refine WK.rgn ?_ ?_; kernel_rfl) | refine AtCall.now ?_); simp (config := { maxSteps := 1000000 }) only [SS, forall_const, wx, tguard, acallee, top, tval, fput, tor, vsh, vbin, vun, tload, tload2, tload3, tlen2, tpick, tbox, one, tbs, tbs2, afill, Go.AM.splice, tsl, tsl2, tsl3, tsl4, tsl5, Go.AM.bound, tap, tap2, tap3, tap4, tsrc, tsrc2, Int.reduceEq, Int.reduceNeg, Nat.reduceGT, Nat.reduceLT, Nat.reduceLeDiff, Nat.reduceEqDiff, ↓reduceIte, reduceCtorEq, Int.reduceToNat, Int.reduceLE, Int.reduceLT, Nat.reduceAdd, Nat.reduceMul, hand, hw1, htm, hb2, gc_len, gc_all, ff_5]) | (refine WK.condT ?_ ?_; focus (simp only [ev_tmp, ev_const, fset_apply, Nat.reduceEqDiff, ↓reduceIte, decide_true, decide_false, hand, hw1, htm, hb2, gc_len, gc_all, ff_5]; done)) | (refine WK.condF ?_ ?_; focus (simp only [ev_tmp, ev_const, fset_apply, Nat.reduceEqDiff, ↓reduceIte, decide_true, decide_false, hand, hw1, htm, hb2, gc_len, gc_all, ff_5]; done)))
  have hw2 := kk2.wf hw
  refine AtCall.by (prefix_gives hw2 (hg0.mono hw kk2) wg ok hf (ha.mono hw kk2).ra (by omega) hi) ?_
  rintro v n3 H3 k3 rfl
  have hle := pref_le (g := g) (gd := gdG g) (em := emG g) w (newS g (gdG g) (emG g))
  have htk := pref_take (g := g) (gd := gdG g) (em := emG g) w (newS g (gdG g) (emG g)) c hcl
  have hac := acc_pref (g := g) (gd := gdG g) (em := emG g) w (newS g (gdG g) (emG g))
  have hsn := pref_snoc (g := g) (gd := gdG g) (em := emG g) w (newS g (gdG g) (emG g))
  have kk3 := kk2.trans k3
  have hb3 := (k3.keep n (by have := hk.le; have := k2.le; omega)).trans hb2
  have hw3 := kk3.wf hw
  have hg3 := hg0.mono hw kk3
  have ha3 := ha.mono hw kk3
  generalize hPn : prefS g (gdG g) (emG g) (newS g (gdG g) (emG g)) w = N0 at *
  have q1 : (0 : Int) ≤ (N0 : Int) := by omega
  have q2 : (N0 : Int) ≤ (w.length : Int) := by omega
  simp (config := { maxSteps := 1000000 }) only [SS, forall_const, wx, tguard, acallee, top, tval, fput, tor, vsh, vbin, vun, tload, tload2, tload3, tlen2, tpick, tbox, one, tbs, tbs2, afill, Go.AM.splice, tsl, tsl2, tsl3, tsl4, tsl5, Go.AM.bound, tap, tap2, tap3, tap4, tsrc, tsrc2, Int.reduceEq, Int.reduceNeg, Nat.reduceGT, Nat.reduceLT, Nat.reduceLeDiff, Nat.reduceEqDiff, ↓reduceIte, reduceCtorEq, Int.reduceToNat, Int.reduceLE, Int.reduceLT, Nat.reduceAdd, Nat.reduceMul, ff_5]
  repeat (first | apply WK.seq | apply WK.block | apply WK.skipSeq | apply WK.skipBlock | apply WK.retSeq | apply WK.retBlock | apply WK.exitSeq | apply WK.exitHere | refine WK.exitOn rfl ?_)
  rcases ha3 with ⟨rfl, rfl⟩ | ⟨zw, kw, csw, tw, ow, rfl, hzw, hlw, hew⟩
  · have hc0 : c = 0 := by simpa using hcl
    have hN0 : N0 = 0 := by simpa using hle
    subst hc0; subst hN0
    have z0 : (((0 : Nat) : Int) ≤ ((0 : Nat) : Int)) = True := by simp
    (refine WK.rgl [(37, 40), (37, 42)] (by kernel_rfl) ?_; simp (config := { maxSteps := 1000000 }) only [wl, wl1_false, wl1_true, wl2_none, wl2_some, wl3_some, wl3_none, SS, forall_const, wx, tguard, acallee, top, tval, fput, tor, vsh, vbin, vun, tload, tload2, tload3, tlen2, tpick, tbox, one, tbs, tbs2, afill, Go.AM.splice, tsl, tsl2, tsl3, tsl4, tsl5, Go.AM.bound, tap, tap2, tap3, tap4, tsrc, tsrc2, Int.reduceEq, Int.reduceNeg, Nat.reduceGT, Nat.reduceLT, Nat.reduceLeDiff, Nat.reduceEqDiff, ↓reduceIte, reduceCtorEq, Int.reduceToNat, Int.reduceLE, Int.reduceLT, Nat.reduceAdd, Nat.reduceMul, List.length_nil, q1, z0, hb3, gc_len, gc_all, aop_slnil und_26 inf_int, ff_5])
    have hp4 := prefix_gives (w := []) (a := none) hw3 hg3 wg ok hf (fun h => absurd rfl h) (by simp) (fun t h => by cases h)
    refine AtCallL.by hp4 ?_
    rintro v n4 H4 k4 rfl
    have kk4 := kk3.trans k4
    have hb4 := (k4.keep n (by have := hk.le; have := k2.le; have := k3.le; omega)).trans hb3
    have hw4 := kk4.wf hw
    rw [hPn]
    have z1 : (((0 : Nat) : Int) = ((0 : Nat) : Int)) = True := by simp
    have z2 : (((0 : Nat) : Int) < ((0 : Nat) : Int)) = False := by simp
    have z3 : min ((0 : Nat) : Int) ((0 : Nat) : Int) = ((0 : Nat) : Int) := rfl
    simp (config := { maxSteps := 1000000 }) only [wl, wl1_false, wl1_true, wl2_none, wl2_some, wl3_some, wl3_none, SS, forall_const, wx, tguard, acallee, top, tval, fput, tor, vsh, vbin, vun, tload, tload2, tload3, tlen2, tpick, tbox, one, tbs, tbs2, afill, Go.AM.splice, tsl, tsl2, tsl3, tsl4, tsl5, Go.AM.bound, tap, tap2, tap3, tap4, tsrc, tsrc2, Int.reduceEq, Int.reduceNeg, Nat.reduceGT, Nat.reduceLT, Nat.reduceLeDiff, Nat.reduceEqDiff, ↓reduceIte, reduceCtorEq, Int.reduceToNat, Int.reduceLE, Int.reduceLT, Nat.reduceAdd, Nat.reduceMul, aop_min, tmm, Bool.false_eq_true, z2, z1, hb4, gc_len, gc_all, ff_5]
    have hp5 := accepts_gives (w := []) (a := none) hw4 (hg0.mono hw kk4) wg ok hf (fun h => absurd rfl h) (by simp) (fun t h => by cases h)
    refine AtCallL.by hp5 ?_
    rintro v n5 H5 k5 rfl
    have kk5 := kk4.trans k5
    have hb5 := (k5.keep n (by have := hk.le; have := k2.le; have := k3.le; have := k4.le; omega)).trans hb4
    have hn5 : n < n5 := by have := hk.le; have := k2.le; have := k3.le; have := k4.le; have := k5.le; omega
    cases hacc : accW g (gdG g) (emG g) (newS g (gdG g) (emG g)) [] with
    | false =>
      have kA := Kp.new n5 H5 (.cells [] 3 true)
      have bA := hset_at H5 n5 (.cells [] 3 true)
      have hbA := (kA.keep n (by omega)).trans hb5
      generalize hA : hset H5 n5 (.cells [] 3 true) = HA at *
      have kA1 : Kp n H (n5 + 1) (hset HA n5 .dead) := (kk5.trans kA).set (x := n5) .dead (by omega) (by omega)
      generalize hA1 : hset HA n5 .dead = HA1 at *
      have kB := Kp.new (n5 + 1) HA1 (.cells ([] : List Value) 3 true)
      have bB := hset_at HA1 (n5 + 1) (.cells ([] : List Value) 3 true)
      generalize hB : hset HA1 (n5 + 1) (.cells ([] : List Value) 3 true) = HB at *
      have kC := Kp.new (n5 + 1 + 1) HB (.cells [.int .i64 (-1)] 3 true)
      have bC := hset_at HB (n5 + 1 + 1) (.cells [.int .i64 (-1)] 3 true)
      have cB := (kC.keep (n5 + 1) (by omega)).trans bB
      generalize hC : hset HB (n5 + 1 + 1) (.cells [.int .i64 (-1)] 3 true) = HC at *
      have kC1 : Kp n H (n5 + 1 + 1 + 1) (hset HC (n5 + 1) .dead) := ((kA1.trans kB).trans kC).set (x := n5 + 1) .dead (by omega) (by omega)
      generalize hC1 : hset HC (n5 + 1) .dead = HC1 at *
      have kD := Kp.new (n5 + 1 + 1 + 1) HC1 (.cells ([.int .i64 (-1)]) 3 true)
      have bD := hset_at HC1 (n5 + 1 + 1 + 1) (.cells ([.int .i64 (-1)]) 3 true)
      generalize hD : hset HC1 (n5 + 1 + 1 + 1) (.cells ([.int .i64 (-1)]) 3 true) = HD at *
      have kk6 := kC1.trans kD
      have u1 : ([] : List Nat).contains n5 = false := rfl
      have u7 : (gcells pt pv pr g).take 3 = gcells pt pv pr g := rfl
      have u2 : [n5 + 1 + 1].contains (n5 + 1) = false := by simp
      have u8 : ([Value.int .i64 (-1)] : List Value).take 1 = [Value.int .i64 (-1)] := rfl
      have u3 : 0 ≤ bigN := by unfold bigN; omega
      have u4 : 0 + 1 ≤ bigN := by unfold bigN; omega
      have u5 : 0 ≤ ([] : List Value).length := by simp
      have u6 : ([] : List Value).take 0 = ([] : List Value) := List.take_of_length_le (by simp)
      simp (config := { maxSteps := 1000000 }) only [wl, wl1_false, wl1_true, wl2_none, wl2_some, wl3_some, wl3_none, SS, forall_const, wx, tguard, acallee, top, tval, fput, tor, vsh, vbin, vun, tload, tload2, tload3, tlen2, tpick, tbox, one, tbs, tbs2, afill, Go.AM.splice, tsl, tsl2, tsl3, tsl4, tsl5, Go.AM.bound, tap, tap2, tap3, tap4, tsrc, tsrc2, Int.reduceEq, Int.reduceNeg, Nat.reduceGT, Nat.reduceLT, Nat.reduceLeDiff, Nat.reduceEqDiff, ↓reduceIte, reduceCtorEq, Int.reduceToNat, Int.reduceLE, Int.reduceLT, Nat.reduceAdd, Nat.reduceMul, z1, z2, hb5, gc_len, gc_all, hA, bA, hA1, hB, bB, hC, bC, cB, hC1, hD, u1, u2, u3, u4, u5, u6, u7, u8,  List.drop_zero, List.nil_append, List.append_nil, List.take_nil, List.drop_nil, Nat.zero_add, Nat.add_zero, List.length_nil, ff_5]
      have hp6 := prefix_gives (w := ([] : List Int) ++ [-1]) (a := some ⟨n5 + 1 + 1 + 1, 0, none⟩) (kk6.wf hw) (hg0.mono hw kk6) wg ok hf (fun _ => ⟨_, 0, _, _, _, rfl, bD, fun i y e => by
        rw [Nat.zero_add, show [Value.int .i64 (-1)] = (([] : List Int) ++ [-1]).map (Value.int .i64) by simp, List.getElem?_map, e]
        first | done | rfl⟩) (by simp <;> omega) (fun t ht => by
          rcases List.mem_append.1 ht with h | h
          · exact hi t h
          · have : t = -1 := by simpa using h
            subst this; exact ⟨by omega, by omega⟩)
      rw [List.length_append] at hp6
      refine AtCallL.by hp6 ?_
      rintro v n7 H7 k7 rfl
      have hfin : prefS g (gdG g) (emG g) (newS g (gdG g) (emG g)) (([] : List Int) ++ [-1]) = 0 := hsn rfl
      rw [hfin]
      simp (config := { maxSteps := 1000000 }) only [wl, wl1_false, wl1_true, wl2_none, wl2_some, wl3_some, wl3_none, SS, forall_const, wx, tguard, acallee, top, tval, fput, tor, vsh, vbin, vun, tload, tload2, tload3, tlen2, tpick, tbox, one, tbs, tbs2, afill, Go.AM.splice, tsl, tsl2, tsl3, tsl4, tsl5, Go.AM.bound, tap, tap2, tap3, tap4, tsrc, tsrc2, Int.reduceEq, Int.reduceNeg, Nat.reduceGT, Nat.reduceLT, Nat.reduceLeDiff, Nat.reduceEqDiff, ↓reduceIte, reduceCtorEq, Int.reduceToNat, Int.reduceLE, Int.reduceLT, Nat.reduceAdd, Nat.reduceMul, ff_5]
      refine ⟨light_cons rfl rfl (lapart_rw (by simp; omega)) (light_cons rfl rfl (lapart_rw (by simp; omega)) light_nil), ?_⟩
      repeat (first | apply WK.seq | apply WK.block | apply WK.skipSeq | apply WK.skipBlock | apply WK.retSeq | apply WK.retBlock | apply WK.exitSeq | apply WK.exitHere | refine WK.exitOn rfl ?_ | ((first | (refine WK.rgn ?_ ?_; kernel_rfl) | refine AtCall.now ?_); simp (config := { maxSteps := 1000000 }) only [SS, forall_const, wx, tguard, acallee, top, tval, fput, tor, vsh, vbin, vun, tload, tload2, tload3, tlen2, tpick, tbox, one, tbs, tbs2, afill, Go.AM.splice, tsl, tsl2, tsl3, tsl4, tsl5, Go.AM.bound, tap, tap2, tap3, tap4, tsrc, tsrc2, Int.reduceEq, Int.reduceNeg, Nat.reduceGT, Nat.reduceLT, Nat.reduceLeDiff, Nat.reduceEqDiff, ↓reduceIte, reduceCtorEq, Int.reduceToNat, Int.reduceLE, Int.reduceLT, Nat.reduceAdd, Nat.reduceMul, ff_5]) | (refine WK.condT ?_ ?_; focus (simp only [ev_tmp, ev_const, fset_apply, Nat.reduceEqDiff, ↓reduceIte, decide_true, decide_false, ff_5]; done)) | (refine WK.condF ?_ ?_; focus (simp only [ev_tmp, ev_const, fset_apply, Nat.reduceEqDiff, ↓reduceIte, decide_true, decide_false, ff_5]; done)))
      (first | refine WK.retNil ⟨Or.inr rfl, _, rfl, ?_, ?_⟩ | refine WK.skipNil ⟨Or.inl rfl, _, rfl, ?_, ?_⟩)
      · exact (kk6.trans k7).keep
      · simp only [packed, fset_apply, Nat.reduceEqDiff, ↓reduceIte, List.getD_cons_zero, List.getD_cons_succ, ff_5]
    | true =>
      have kA := Kp.new n5 H5 (.cells [] 3 true)
      have bA := hset_at H5 n5 (.cells [] 3 true)
      have hbA := (kA.keep n (by omega)).trans hb5
      generalize hA : hset H5 n5 (.cells [] 3 true) = HA at *
      have kA1 : Kp n H (n5 + 1) (hset HA n5 .dead) := (kk5.trans kA).set (x := n5) .dead (by omega) (by omega)
      generalize hA1 : hset HA n5 .dead = HA1 at *
      have kB := Kp.new (n5 + 1) HA1 (.cells ([] : List Value) 3 true)
      have bB := hset_at HA1 (n5 + 1) (.cells ([] : List Value) 3 true)
      generalize hB : hset HA1 (n5 + 1) (.cells ([] : List Value) 3 true) = HB at *
      have kC := Kp.new (n5 + 1 + 1) HB (.cells [.int .i64 (-1)] 3 true)
      have bC := hset_at HB (n5 + 1 + 1) (.cells [.int .i64 (-1)] 3 true)
      have cB := (kC.keep (n5 + 1) (by omega)).trans bB
      generalize hC : hset HB (n5 + 1 + 1) (.cells [.int .i64 (-1)] 3 true) = HC at *
      have kC1 : Kp n H (n5 + 1 + 1 + 1) (hset HC (n5 + 1) .dead) := ((kA1.trans kB).trans kC).set (x := n5 + 1) .dead (by omega) (by omega)
      generalize hC1 : hset HC (n5 + 1) .dead = HC1 at *
      have kD := Kp.new (n5 + 1 + 1 + 1) HC1 (.cells ([.int .i64 (-1)]) 3 true)
      have bD := hset_at HC1 (n5 + 1 + 1 + 1) (.cells ([.int .i64 (-1)]) 3 true)
      generalize hD : hset HC1 (n5 + 1 + 1 + 1) (.cells ([.int .i64 (-1)]) 3 true) = HD at *
      have kk6 := kC1.trans kD
      have u1 : ([] : List Nat).contains n5 = false := rfl
      have u7 : (gcells pt pv pr g).take 3 = gcells pt pv pr g := rfl
      have u2 : [n5 + 1 + 1].contains (n5 + 1) = false := by simp
      have u8 : ([Value.int .i64 (-1)] : List Value).take 1 = [Value.int .i64 (-1)] := rfl
      have u3 : 0 ≤ bigN := by unfold bigN; omega
      have u4 : 0 + 1 ≤ bigN := by unfold bigN; omega
      have u5 : 0 ≤ ([] : List Value).length := by simp
      have u6 : ([] : List Value).take 0 = ([] : List Value) := List.take_of_length_le (by simp)
      simp (config := { maxSteps := 1000000 }) only [wl, wl1_false, wl1_true, wl2_none, wl2_some, wl3_some, wl3_none, SS, forall_const, wx, tguard, acallee, top, tval, fput, tor, vsh, vbin, vun, tload, tload2, tload3, tlen2, tpick, tbox, one, tbs, tbs2, afill, Go.AM.splice, tsl, tsl2, tsl3, tsl4, tsl5, Go.AM.bound, tap, tap2, tap3, tap4, tsrc, tsrc2, Int.reduceEq, Int.reduceNeg, Nat.reduceGT, Nat.reduceLT, Nat.reduceLeDiff, Nat.reduceEqDiff, ↓reduceIte, reduceCtorEq, Int.reduceToNat, Int.reduceLE, Int.reduceLT, Nat.reduceAdd, Nat.reduceMul, z1, z2, hb5, gc_len, gc_all, hA, bA, hA1, hB, bB, hC, bC, cB, hC1, hD, u1, u2, u3, u4, u5, u6, u7, u8,  List.drop_zero, List.nil_append, List.append_nil, List.take_nil, List.drop_nil, Nat.zero_add, Nat.add_zero, List.length_nil, ff_5]
      have hp6 := prefix_gives (w := ([] : List Int) ++ [-1]) (a := some ⟨n5 + 1 + 1 + 1, 0, none⟩) (kk6.wf hw) (hg0.mono hw kk6) wg ok hf (fun _ => ⟨_, 0, _, _, _, rfl, bD, fun i y e => by
        rw [Nat.zero_add, show [Value.int .i64 (-1)] = (([] : List Int) ++ [-1]).map (Value.int .i64) by simp, List.getElem?_map, e]
        first | done | rfl⟩) (by simp <;> omega) (fun t ht => by
          rcases List.mem_append.1 ht with h | h
          · exact hi t h
          · have : t = -1 := by simpa using h
            subst this; exact ⟨by omega, by omega⟩)
      rw [List.length_append] at hp6
      refine AtCallL.by hp6 ?_
      rintro v n7 H7 k7 rfl
      have hfin : prefS g (gdG g) (emG g) (newS g (gdG g) (emG g)) (([] : List Int) ++ [-1]) = 0 := hsn rfl
      rw [hfin]
      simp (config := { maxSteps := 1000000 }) only [wl, wl1_false, wl1_true, wl2_none, wl2_some, wl3_some, wl3_none, SS, forall_const, wx, tguard, acallee, top, tval, fput, tor, vsh, vbin, vun, tload, tload2, tload3, tlen2, tpick, tbox, one, tbs, tbs2, afill, Go.AM.splice, tsl, tsl2, tsl3, tsl4, tsl5, Go.AM.bound, tap, tap2, tap3, tap4, tsrc, tsrc2, Int.reduceEq, Int.reduceNeg, Nat.reduceGT, Nat.reduceLT, Nat.reduceLeDiff, Nat.reduceEqDiff, ↓reduceIte, reduceCtorEq, Int.reduceToNat, Int.reduceLE, Int.reduceLT, Nat.reduceAdd, Nat.reduceMul, ff_5]
      refine ⟨light_cons rfl rfl (lapart_rw (by simp; omega)) (light_cons rfl rfl (lapart_rw (by simp; omega)) light_nil), ?_⟩
      repeat (first | apply WK.seq | apply WK.block | apply WK.skipSeq | apply WK.skipBlock | apply WK.retSeq | apply WK.retBlock | apply WK.exitSeq | apply WK.exitHere | refine WK.exitOn rfl ?_ | ((first | (refine WK.rgn ?_ ?_; kernel_rfl) | refine AtCall.now ?_); simp (config := { maxSteps := 1000000 }) only [SS, forall_const, wx, tguard, acallee, top, tval, fput, tor, vsh, vbin, vun, tload, tload2, tload3, tlen2, tpick, tbox, one, tbs, tbs2, afill, Go.AM.splice, tsl, tsl2, tsl3, tsl4, tsl5, Go.AM.bound, tap, tap2, tap3, tap4, tsrc, tsrc2, Int.reduceEq, Int.reduceNeg, Nat.reduceGT, Nat.reduceLT, Nat.reduceLeDiff, Nat.reduceEqDiff, ↓reduceIte, reduceCtorEq, Int.reduceToNat, Int.reduceLE, Int.reduceLT, Nat.reduceAdd, Nat.reduceMul, ff_5]) | (refine WK.condT ?_ ?_; focus (simp only [ev_tmp, ev_const, fset_apply, Nat.reduceEqDiff, ↓reduceIte, decide_true, decide_false, ff_5]; done)) | (refine WK.condF ?_ ?_; focus (simp only [ev_tmp, ev_const, fset_apply, Nat.reduceEqDiff, ↓reduceIte, decide_true, decide_false, ff_5]; done)))
      (first | refine WK.retNil ⟨Or.inr rfl, _, rfl, ?_, ?_⟩ | refine WK.skipNil ⟨Or.inl rfl, _, rfl, ?_, ?_⟩)
      · exact (kk6.trans k7).keep
      · simp only [packed, fset_apply, Nat.reduceEqDiff, ↓reduceIte, List.getD_cons_zero, List.getD_cons_succ, ff_5]
  · have hw0 : ow = false := (hao.kp hw kk3 ha) _ _ _ rfl _ _ _ hzw
    subst hw0
    have hzn := fun (m : Nat) (h : n3 ≤ m) => (show zw < m from Nat.lt_of_lt_of_le (Classical.byContradiction fun hc => by rw [hw3 zw (by omega)] at hzw; cases hzw) h)
    (refine WK.rgl [(37, 40), (37, 42)] (by kernel_rfl) ?_; simp (config := { maxSteps := 1000000 }) only [wl, wl1_false, wl1_true, wl2_none, wl2_some, wl3_some, wl3_none, SS, forall_const, wx, tguard, acallee, top, tval, fput, tor, vsh, vbin, vun, tload, tload2, tload3, tlen2, tpick, tbox, one, tbs, tbs2, afill, Go.AM.splice, tsl, tsl2, tsl3, tsl4, tsl5, Go.AM.bound, tap, tap2, tap3, tap4, tsrc, tsrc2, Int.reduceEq, Int.reduceNeg, Nat.reduceGT, Nat.reduceLT, Nat.reduceLeDiff, Nat.reduceEqDiff, ↓reduceIte, reduceCtorEq, Int.reduceToNat, Int.reduceLE, Int.reduceLT, Nat.reduceAdd, Nat.reduceMul, q1, q2, hb3, gc_len, gc_all, hzw, hcl, false_implies, Bool.false_eq_true, ff_5])
    have hra : RA (Value.int .i64) H3 (some ⟨zw, kw, none⟩) w := fun _ => ⟨zw, kw, csw, tw, false, rfl, hzw, hew⟩
    have hp4 := prefix_gives (w := w.take c) (a := some ⟨zw, kw, none⟩) hw3 hg3 wg ok hf (fun _ => ⟨zw, kw, csw, tw, false, rfl, hzw, fun i y e => hew i y (by
      rw [List.getElem?_take] at e
      split at e
      · exact e
      · cases e)⟩) (by rw [List.length_take]; omega) (fun t h => hi t (List.mem_of_mem_take h))
    rw [List.length_take, Nat.min_eq_left hcl, htk] at hp4
    refine AtCallL.by hp4 ?_
    rintro v n4 H4 k4 rfl
    have kk4 := kk3.trans k4
    have hb4 := (k4.keep n (by have := hk.le; have := k2.le; have := k3.le; omega)).trans hb3
    have hw4 := kk4.wf hw
    have z1 : (((min N0 c : Nat) : Int) = if c < N0 then (c : Int) else (N0 : Int)) = True := eq_true (by split <;> omega)
    simp (config := { maxSteps := 1000000 }) only [wl, wl1_false, wl1_true, wl2_none, wl2_some, wl3_some, wl3_none, SS, forall_const, wx, tguard, acallee, top, tval, fput, tor, vsh, vbin, vun, tload, tload2, tload3, tlen2, tpick, tbox, one, tbs, tbs2, afill, Go.AM.splice, tsl, tsl2, tsl3, tsl4, tsl5, Go.AM.bound, tap, tap2, tap3, tap4, tsrc, tsrc2, Int.reduceEq, Int.reduceNeg, Nat.reduceGT, Nat.reduceLT, Nat.reduceLeDiff, Nat.reduceEqDiff, ↓reduceIte, reduceCtorEq, Int.reduceToNat, Int.reduceLE, Int.reduceLT, Nat.reduceAdd, Nat.reduceMul, aop_min, tmm, Bool.false_eq_true, z1, hb4, gc_len, gc_all, ff_5]
    have hp5 := accepts_gives hw4 (hg0.mono hw kk4) wg ok hf (hra.mono hw3 k4) (by omega) hi
    refine AtCallL.by hp5 ?_
    rintro v n5 H5 k5 rfl
    have kk5 := kk4.trans k5
    have hb5 := (k5.keep n (by have := hk.le; have := k2.le; have := k3.le; have := k4.le; omega)).trans hb4
    have hz5 := ((k4.trans k5).keep zw (hzn n3 (Nat.le_refl _))).trans hzw
    have hn5 : n < n5 := by have := hk.le; have := k2.le; have := k3.le; have := k4.le; have := k5.le; omega
    have hzn5 := hzn n5 (by have := k4.le; have := k5.le; omega)
    have hcut : (csw.drop kw).take w.length = w.map (Value.int .i64) := RS.cells hlw hew
    cases hacc : accW g (gdG g) (emG g) (newS g (gdG g) (emG g)) w with
    | false =>
      by_cases hlt : (N0 : Int) < (w.length : Int)
      · simp (config := { maxSteps := 1000000 }) only [wl, wl1_false, wl1_true, wl2_none, wl2_some, wl3_some, wl3_none, SS, forall_const, wx, tguard, acallee, top, tval, fput, tor, vsh, vbin, vun, tload, tload2, tload3, tlen2, tpick, tbox, one, tbs, tbs2, afill, Go.AM.splice, tsl, tsl2, tsl3, tsl4, tsl5, Go.AM.bound, tap, tap2, tap3, tap4, tsrc, tsrc2, Int.reduceEq, Int.reduceNeg, Nat.reduceGT, Nat.reduceLT, Nat.reduceLeDiff, Nat.reduceEqDiff, ↓reduceIte, reduceCtorEq, Int.reduceToNat, Int.reduceLE, Int.reduceLT, Nat.reduceAdd, Nat.reduceMul, hlt, hb5, gc_len, gc_all, ff_5]
        refine ⟨light_cons rfl rfl lapart_rr (light_cons rfl rfl lapart_rr light_nil), ?_⟩
        repeat (first | apply WK.seq | apply WK.block | apply WK.skipSeq | apply WK.skipBlock | apply WK.retSeq | apply WK.retBlock | apply WK.exitSeq | apply WK.exitHere | refine WK.exitOn rfl ?_ | ((first | (refine WK.rgn ?_ ?_; kernel_rfl) | refine AtCall.now ?_); simp (config := { maxSteps := 1000000 }) only [SS, forall_const, wx, tguard, acallee, top, tval, fput, tor, vsh, vbin, vun, tload, tload2, tload3, tlen2, tpick, tbox, one, tbs, tbs2, afill, Go.AM.splice, tsl, tsl2, tsl3, tsl4, tsl5, Go.AM.bound, tap, tap2, tap3, tap4, tsrc, tsrc2, Int.reduceEq, Int.reduceNeg, Nat.reduceGT, Nat.reduceLT, Nat.reduceLeDiff, Nat.reduceEqDiff, ↓reduceIte, reduceCtorEq, Int.reduceToNat, Int.reduceLE, Int.reduceLT, Nat.reduceAdd, Nat.reduceMul, ff_5]) | (refine WK.condT ?_ ?_; focus (simp only [ev_tmp, ev_const, fset_apply, Nat.reduceEqDiff, ↓reduceIte, decide_true, decide_false, ff_5]; done)) | (refine WK.condF ?_ ?_; focus (simp only [ev_tmp, ev_const, fset_apply, Nat.reduceEqDiff, ↓reduceIte, decide_true, decide_false, ff_5]; done)))
        (first | refine WK.retNil ⟨Or.inr rfl, _, rfl, ?_, ?_⟩ | refine WK.skipNil ⟨Or.inl rfl, _, rfl, ?_, ?_⟩)
        · exact kk5.keep
        · simp only [packed, fset_apply, Nat.reduceEqDiff, ↓reduceIte, List.getD_cons_zero, List.getD_cons_succ, ff_5]
      · have hNl : N0 = w.length := by omega
        subst hNl
        have w1 : ((w.length : Int) = (w.length : Int)) = True := eq_self _
        have w2 : ((w.length : Int) < (w.length : Int)) = False := by simp
        have kA := Kp.new n5 H5 (.cells [] 3 true)
        have bA := hset_at H5 n5 (.cells [] 3 true)
        have hbA := (kA.keep n (by omega)).trans hb5
        have zA := (kA.keep zw (by omega)).trans hz5
        generalize hA : hset H5 n5 (.cells [] 3 true) = HA at *
        have kA1 : Kp n H (n5 + 1) (hset HA n5 .dead) := (kk5.trans kA).set (x := n5) .dead (by omega) (by omega)
        generalize hA1 : hset HA n5 .dead = HA1 at *
        have kB := Kp.new (n5 + 1) HA1 (.cells (w.map (Value.int .i64)) 3 true)
        have bB := hset_at HA1 (n5 + 1) (.cells (w.map (Value.int .i64)) 3 true)
        generalize hB : hset HA1 (n5 + 1) (.cells (w.map (Value.int .i64)) 3 true) = HB at *
        have kC := Kp.new (n5 + 1 + 1) HB (.cells [.int .i64 (-1)] 3 true)
        have bC := hset_at HB (n5 + 1 + 1) (.cells [.int .i64 (-1)] 3 true)
        have cB := (kC.keep (n5 + 1) (by omega)).trans bB
        generalize hC : hset HB (n5 + 1 + 1) (.cells [.int .i64 (-1)] 3 true) = HC at *
        have kC1 : Kp n H (n5 + 1 + 1 + 1) (hset HC (n5 + 1) .dead) := ((kA1.trans kB).trans kC).set (x := n5 + 1) .dead (by omega) (by omega)
        generalize hC1 : hset HC (n5 + 1) .dead = HC1 at *
        have kD := Kp.new (n5 + 1 + 1 + 1) HC1 (.cells ((w.map (Value.int .i64)) ++ [.int .i64 (-1)]) 3 true)
        have bD := hset_at HC1 (n5 + 1 + 1 + 1) (.cells ((w.map (Value.int .i64)) ++ [.int .i64 (-1)]) 3 true)
        generalize hD : hset HC1 (n5 + 1 + 1 + 1) (.cells ((w.map (Value.int .i64)) ++ [.int .i64 (-1)]) 3 true) = HD at *
        have kk6 := kC1.trans kD
        have u1 : [zw].contains n5 = false := by simp; omega
        have u7 : (gcells pt pv pr g).take 3 = gcells pt pv pr g := rfl
        have u2 : [n5 + 1 + 1].contains (n5 + 1) = false := by simp
        have u8 : ([Value.int .i64 (-1)] : List Value).take 1 = [Value.int .i64 (-1)] := rfl
        have u3 : w.length ≤ bigN := by unfold bigN; omega
        have u4 : w.length + 1 ≤ bigN := by unfold bigN; omega
        have u5 : w.length ≤ (w.map (Value.int .i64)).length := by simp
        have u6 : (w.map (Value.int .i64)).take w.length = (w.map (Value.int .i64)) := List.take_of_length_le (by simp)
        simp (config := { maxSteps := 1000000 }) only [wl, wl1_false, wl1_true, wl2_none, wl2_some, wl3_some, wl3_none, SS, forall_const, wx, tguard, acallee, top, tval, fput, tor, vsh, vbin, vun, tload, tload2, tload3, tlen2, tpick, tbox, one, tbs, tbs2, afill, Go.AM.splice, tsl, tsl2, tsl3, tsl4, tsl5, Go.AM.bound, tap, tap2, tap3, tap4, tsrc, tsrc2, Int.reduceEq, Int.reduceNeg, Nat.reduceGT, Nat.reduceLT, Nat.reduceLeDiff, Nat.reduceEqDiff, ↓reduceIte, reduceCtorEq, Int.reduceToNat, Int.reduceLE, Int.reduceLT, Nat.reduceAdd, Nat.reduceMul, w1, w2, hb5, gc_len, gc_all, hA, bA, hA1, hB, bB, hC, bC, cB, hC1, hD, u1, u2, u3, u4, u5, u6, u7, u8, zA, hlw, hcut,  List.drop_zero, List.nil_append, List.append_nil, List.take_nil, List.drop_nil, Nat.zero_add, Nat.add_zero, List.length_nil, ff_5]
        have hp6 := prefix_gives (w := w ++ [-1]) (a := some ⟨n5 + 1 + 1 + 1, 0, none⟩) (kk6.wf hw) (hg0.mono hw kk6) wg ok hf (fun _ => ⟨_, 0, _, _, _, rfl, bD, fun i y e => by
          rw [Nat.zero_add, show (w.map (Value.int .i64)) ++ [Value.int .i64 (-1)] = (w ++ [-1]).map (Value.int .i64) by simp, List.getElem?_map, e]
          first | done | rfl⟩) (by simp <;> omega) (fun t ht => by
            rcases List.mem_append.1 ht with h | h
            · exact hi t h
            · have : t = -1 := by simpa using h
              subst this; exact ⟨by omega, by omega⟩)
        rw [List.length_append] at hp6
        refine AtCallL.by hp6 ?_
        rintro v n7 H7 k7 rfl
        have hfin : prefS g (gdG g) (emG g) (newS g (gdG g) (emG g)) (w ++ [-1]) = w.length := hsn rfl
        rw [hfin]
        simp (config := { maxSteps := 1000000 }) only [wl, wl1_false, wl1_true, wl2_none, wl2_some, wl3_some, wl3_none, SS, forall_const, wx, tguard, acallee, top, tval, fput, tor, vsh, vbin, vun, tload, tload2, tload3, tlen2, tpick, tbox, one, tbs, tbs2, afill, Go.AM.splice, tsl, tsl2, tsl3, tsl4, tsl5, Go.AM.bound, tap, tap2, tap3, tap4, tsrc, tsrc2, Int.reduceEq, Int.reduceNeg, Nat.reduceGT, Nat.reduceLT, Nat.reduceLeDiff, Nat.reduceEqDiff, ↓reduceIte, reduceCtorEq, Int.reduceToNat, Int.reduceLE, Int.reduceLT, Nat.reduceAdd, Nat.reduceMul, ff_5]
        refine ⟨light_cons rfl rfl (lapart_rw (by simp; omega)) (light_cons rfl rfl (lapart_rw (by simp; omega)) light_nil), ?_⟩
        repeat (first | apply WK.seq | apply WK.block | apply WK.skipSeq | apply WK.skipBlock | apply WK.retSeq | apply WK.retBlock | apply WK.exitSeq | apply WK.exitHere | refine WK.exitOn rfl ?_ | ((first | (refine WK.rgn ?_ ?_; kernel_rfl) | refine AtCall.now ?_); simp (config := { maxSteps := 1000000 }) only [SS, forall_const, wx, tguard, acallee, top, tval, fput, tor, vsh, vbin, vun, tload, tload2, tload3, tlen2, tpick, tbox, one, tbs, tbs2, afill, Go.AM.splice, tsl, tsl2, tsl3, tsl4, tsl5, Go.AM.bound, tap, tap2, tap3, tap4, tsrc, tsrc2, Int.reduceEq, Int.reduceNeg, Nat.reduceGT, Nat.reduceLT, Nat.reduceLeDiff, Nat.reduceEqDiff, ↓reduceIte, reduceCtorEq, Int.reduceToNat, Int.reduceLE, Int.reduceLT, Nat.reduceAdd, Nat.reduceMul, ff_5]) | (refine WK.condT ?_ ?_; focus (simp only [ev_tmp, ev_const, fset_apply, Nat.reduceEqDiff, ↓reduceIte, decide_true, decide_false, ff_5]; done)) | (refine WK.condF ?_ ?_; focus (simp only [ev_tmp, ev_const, fset_apply, Nat.reduceEqDiff, ↓reduceIte, decide_true, decide_false, ff_5]; done)))
        (first | refine WK.retNil ⟨Or.inr rfl, _, rfl, ?_, ?_⟩ | refine WK.skipNil ⟨Or.inl rfl, _, rfl, ?_, ?_⟩)
        · exact (kk6.trans k7).keep
        · simp only [packed, fset_apply, Nat.reduceEqDiff, ↓reduceIte, List.getD_cons_zero, List.getD_cons_succ, ff_5]
    | true =>
      have hNl : N0 = w.length := hac hacc
      subst hNl
      have w1 : ((w.length : Int) = (w.length : Int)) = True := eq_self _
      have w2 : ((w.length : Int) < (w.length : Int)) = False := by simp
      have kA := Kp.new n5 H5 (.cells [] 3 true)
      have bA := hset_at H5 n5 (.cells [] 3 true)
      have hbA := (kA.keep n (by omega)).trans hb5
      have zA := (kA.keep zw (by omega)).trans hz5
      generalize hA : hset H5 n5 (.cells [] 3 true) = HA at *
      have kA1 : Kp n H (n5 + 1) (hset HA n5 .dead) := (kk5.trans kA).set (x := n5) .dead (by omega) (by omega)
      generalize hA1 : hset HA n5 .dead = HA1 at *
      have kB := Kp.new (n5 + 1) HA1 (.cells (w.map (Value.int .i64)) 3 true)
      have bB := hset_at HA1 (n5 + 1) (.cells (w.map (Value.int .i64)) 3 true)
      generalize hB : hset HA1 (n5 + 1) (.cells (w.map (Value.int .i64)) 3 true) = HB at *
      have kC := Kp.new (n5 + 1 + 1) HB (.cells [.int .i64 (-1)] 3 true)
      have bC := hset_at HB (n5 + 1 + 1) (.cells [.int .i64 (-1)] 3 true)
      have cB := (kC.keep (n5 + 1) (by omega)).trans bB
      generalize hC : hset HB (n5 + 1 + 1) (.cells [.int .i64 (-1)] 3 true) = HC at *
      have kC1 : Kp n H (n5 + 1 + 1 + 1) (hset HC (n5 + 1) .dead) := ((kA1.trans kB).trans kC).set (x := n5 + 1) .dead (by omega) (by omega)
      generalize hC1 : hset HC (n5 + 1) .dead = HC1 at *
      have kD := Kp.new (n5 + 1 + 1 + 1) HC1 (.cells ((w.map (Value.int .i64)) ++ [.int .i64 (-1)]) 3 true)
      have bD := hset_at HC1 (n5 + 1 + 1 + 1) (.cells ((w.map (Value.int .i64)) ++ [.int .i64 (-1)]) 3 true)
      generalize hD : hset HC1 (n5 + 1 + 1 + 1) (.cells ((w.map (Value.int .i64)) ++ [.int .i64 (-1)]) 3 true) = HD at *
      have kk6 := kC1.trans kD
      have u1 : [zw].contains n5 = false := by simp; omega
      have u7 : (gcells pt pv pr g).take 3 = gcells pt pv pr g := rfl
      have u2 : [n5 + 1 + 1].contains (n5 + 1) = false := by simp
      have u8 : ([Value.int .i64 (-1)] : List Value).take 1 = [Value.int .i64 (-1)] := rfl
      have u3 : w.length ≤ bigN := by unfold bigN; omega
      have u4 : w.length + 1 ≤ bigN := by unfold bigN; omega
      have u5 : w.length ≤ (w.map (Value.int .i64)).length := by simp
      have u6 : (w.map (Value.int .i64)).take w.length = (w.map (Value.int .i64)) := List.take_of_length_le (by simp)
      simp (config := { maxSteps := 1000000 }) only [wl, wl1_false, wl1_true, wl2_none, wl2_some, wl3_some, wl3_none, SS, forall_const, wx, tguard, acallee, top, tval, fput, tor, vsh, vbin, vun, tload, tload2, tload3, tlen2, tpick, tbox, one, tbs, tbs2, afill, Go.AM.splice, tsl, tsl2, tsl3, tsl4, tsl5, Go.AM.bound, tap, tap2, tap3, tap4, tsrc, tsrc2, Int.reduceEq, Int.reduceNeg, Nat.reduceGT, Nat.reduceLT, Nat.reduceLeDiff, Nat.reduceEqDiff, ↓reduceIte, reduceCtorEq, Int.reduceToNat, Int.reduceLE, Int.reduceLT, Nat.reduceAdd, Nat.reduceMul, w1, w2, hb5, gc_len, gc_all, hA, bA, hA1, hB, bB, hC, bC, cB, hC1, hD, u1, u2, u3, u4, u5, u6, u7, u8, zA, hlw, hcut,  List.drop_zero, List.nil_append, List.append_nil, List.take_nil, List.drop_nil, Nat.zero_add, Nat.add_zero, List.length_nil, ff_5]
      have hp6 := prefix_gives (w := w ++ [-1]) (a := some ⟨n5 + 1 + 1 + 1, 0, none⟩) (kk6.wf hw) (hg0.mono hw kk6) wg ok hf (fun _ => ⟨_, 0, _, _, _, rfl, bD, fun i y e => by
        rw [Nat.zero_add, show (w.map (Value.int .i64)) ++ [Value.int .i64 (-1)] = (w ++ [-1]).map (Value.int .i64) by simp, List.getElem?_map, e]
        first | done | rfl⟩) (by simp <;> omega) (fun t ht => by
          rcases List.mem_append.1 ht with h | h
          · exact hi t h
          · have : t = -1 := by simpa using h
            subst this; exact ⟨by omega, by omega⟩)
      rw [List.length_append] at hp6
      refine AtCallL.by hp6 ?_
      rintro v n7 H7 k7 rfl
      have hfin : prefS g (gdG g) (emG g) (newS g (gdG g) (emG g)) (w ++ [-1]) = w.length := hsn rfl
      rw [hfin]
      simp (config := { maxSteps := 1000000 }) only [wl, wl1_false, wl1_true, wl2_none, wl2_some, wl3_some, wl3_none, SS, forall_const, wx, tguard, acallee, top, tval, fput, tor, vsh, vbin, vun, tload, tload2, tload3, tlen2, tpick, tbox, one, tbs, tbs2, afill, Go.AM.splice, tsl, tsl2, tsl3, tsl4, tsl5, Go.AM.bound, tap, tap2, tap3, tap4, tsrc, tsrc2, Int.reduceEq, Int.reduceNeg, Nat.reduceGT, Nat.reduceLT, Nat.reduceLeDiff, Nat.reduceEqDiff, ↓reduceIte, reduceCtorEq, Int.reduceToNat, Int.reduceLE, Int.reduceLT, Nat.reduceAdd, Nat.reduceMul, ff_5]
      refine ⟨light_cons rfl rfl (lapart_rw (by simp; omega)) (light_cons rfl rfl (lapart_rw (by simp; omega)) light_nil), ?_⟩
      repeat (first | apply WK.seq | apply WK.block | apply WK.skipSeq | apply WK.skipBlock | apply WK.retSeq | apply WK.retBlock | apply WK.exitSeq | apply WK.exitHere | refine WK.exitOn rfl ?_ | ((first | (refine WK.rgn ?_ ?_; kernel_rfl) | refine AtCall.now ?_); simp (config := { maxSteps := 1000000 }) only [SS, forall_const, wx, tguard, acallee, top, tval, fput, tor, vsh, vbin, vun, tload, tload2, tload3, tlen2, tpick, tbox, one, tbs, tbs2, afill, Go.AM.splice, tsl, tsl2, tsl3, tsl4, tsl5, Go.AM.bound, tap, tap2, tap3, tap4, tsrc, tsrc2, Int.reduceEq, Int.reduceNeg, Nat.reduceGT, Nat.reduceLT, Nat.reduceLeDiff, Nat.reduceEqDiff, ↓reduceIte, reduceCtorEq, Int.reduceToNat, Int.reduceLE, Int.reduceLT, Nat.reduceAdd, Nat.reduceMul, ff_5]) | (refine WK.condT ?_ ?_; focus (simp only [ev_tmp, ev_const, fset_apply, Nat.reduceEqDiff, ↓reduceIte, decide_true, decide_false, ff_5]; done)) | (refine WK.condF ?_ ?_; focus (simp only [ev_tmp, ev_const, fset_apply, Nat.reduceEqDiff, ↓reduceIte, decide_true, decide_false, ff_5]; done)))
      (first | refine WK.retNil ⟨Or.inr rfl, _, rfl, ?_, ?_⟩ | refine WK.skipNil ⟨Or.inl rfl, _, rfl, ?_, ?_⟩)
      · exact (kk6.trans k7).keep
      · simp only [packed, fset_apply, Nat.reduceEqDiff, ↓reduceIte, List.getD_cons_zero, List.getD_cons_succ, ff_5]
end Go.Proofs.Ytpdlmpbhohinpaa
