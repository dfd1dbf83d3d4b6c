/- A part of a proof. Its conditions: none. -/
import Derived.Test.YtihjaobjhmmboaaGreatDoorAmULfCostW
import Derived.Test.YtihjaobjhmmboaaGreatDoorAmULfForm
import Derived.Test.YtihjaobjhmmboaaGreatDoorAmC
set_option linter.all false
namespace Go.Proofs.YtihjaobjhmmboaaGreatDoor
open Go.AM
set_option maxRecDepth 100000

/-- What Shortest tells. -/
def ShortS (g : Gram) (b : Nat → Int) (v : Int) (res : List Int) (ok : Bool) : Prop :=
  (ok = true → ∃ u : Nat, v = (u : Int) ∧ u < g.vars.length ∧ Pre g b [v] res ∧ res.length ≤ 4096) ∧
  (ok = false → res = [] ∧ (v < 0 ∨ (g.vars.length : Int) ≤ v ∨ ∃ u : Nat, v = (u : Int) ∧ u < g.vars.length ∧ (b u = -1 ∨ ∃ D, Pre g b [v] D ∧ 4096 < D.length)))

set_option maxHeartbeats 16000000 in
theorem shortest_gives {v : Value} {g : Gram} {a : Int} {n : Nat} {H : Heap} (hw : WF n H) (hg : RG H v g) (wg : WG g) (ok : RightOK g) :
    Gives Tryz.prog 21 [v, .int .i64 a] n H fun v _ H' => ∃ c b, CostOK g c b ∧ b = costB g ∧ ∃ res t p, v = .tuple #[.slice p res.length res.length, .bool t] ∧ RS (Value.int .i64) H' p res ∧ ShortS g b a res t := by
  have hg0 := hg
  obtain ⟨pt, pv, pr, rfl, ht, hv, hr⟩ := hg
  refine Gives.of orders ok21 (Nat.le_of_ble_eq_true rfl) ?_
  have hk := Kp.new n H (.cells (gcells pt pv pr g) 25 true)
  have hb := hset_at H n (.cells (gcells pt pv pr g) 25 true)
  have hi := ok.inG
  have hv64 := ok.vars
  have hrl := ok.rules
-- function 21
  repeat (first | apply WK.seq | apply WK.block | apply WK.skipSeq | apply WK.skipBlock | apply WK.retSeq | apply WK.retBlock | apply WK.exitSeq | apply WK.exitHere | refine WK.exitOn rfl ?_)
  (refine WK.rgn ?_ ?_; kernel_rfl; simp (config := { maxSteps := 1000000 }) only [SS, forall_const, wx, tguard, acallee, top, tval, fput, tor, vsh, vbin, tload, tload2, tload3, tidx, tidx2, tidx3, tfa, tfa2, tlen2, tpick, textr, tbox, one, tbs, tbs2, afill, Go.AM.splice, tsl, tsl2, tsl3, tsl4, tsl5, Go.AM.bound, tap, tap2, tap3, tap4, tsrc, tsrc2, Int.reduceEq, Int.reduceNeg, Nat.reduceGT, Nat.reduceLT, Nat.reduceLeDiff, Nat.reduceEqDiff, ↓reduceIte, reduceCtorEq, Int.reduceToNat, Int.reduceLE, Int.reduceLT, Nat.reduceAdd, Nat.reduceMul, box_cells, box_one, ff_21])
  generalize hset H n (.cells (gcells pt pv pr g) 25 true) = H1 at *
  repeat (first | apply WK.seq | apply WK.block | apply WK.skipSeq | apply WK.skipBlock | apply WK.retSeq | apply WK.retBlock | apply WK.exitSeq | apply WK.exitHere | refine WK.exitOn rfl ?_)
  (refine WK.rgn ?_ ?_; kernel_rfl; simp (config := { maxSteps := 1000000 }) only [SS, forall_const, wx, tguard, acallee, top, tval, fput, tor, vsh, vbin, tload, tload2, tload3, tidx, tidx2, tidx3, tfa, tfa2, tlen2, tpick, textr, tbox, one, tbs, tbs2, afill, Go.AM.splice, tsl, tsl2, tsl3, tsl4, tsl5, Go.AM.bound, tap, tap2, tap3, tap4, tsrc, tsrc2, Int.reduceEq, Int.reduceNeg, Nat.reduceGT, Nat.reduceLT, Nat.reduceLeDiff, Nat.reduceEqDiff, ↓reduceIte, reduceCtorEq, Int.reduceToNat, Int.reduceLE, Int.reduceLT, Nat.reduceAdd, Nat.reduceMul, hb, gc_len, gc_all, ff_21])
  refine AtCall.by (cost_gives (hk.wf hw) (hg0.mono hw hk) wg ok) ?_
  rintro v nc Hc kc ⟨cl, bl, rfl, hxc, hxb, lc, lb, hok, hbB⟩
  simp (config := { maxSteps := 1000000 }) only [SS, forall_const, wx, tguard, acallee, top, tval, fput, tor, vsh, vbin, tload, tload2, tload3, tidx, tidx2, tidx3, tfa, tfa2, tlen2, tpick, textr, tbox, one, tbs, tbs2, afill, Go.AM.splice, tsl, tsl2, tsl3, tsl4, tsl5, Go.AM.bound, tap, tap2, tap3, tap4, tsrc, tsrc2, Int.reduceEq, Int.reduceNeg, Nat.reduceGT, Nat.reduceLT, Nat.reduceLeDiff, Nat.reduceEqDiff, ↓reduceIte, reduceCtorEq, Int.reduceToNat, Int.reduceLE, Int.reduceLT, Nat.reduceAdd, Nat.reduceMul, ff_21]
  have kk := hk.trans kc
  have wc := kk.wf hw
  have hbc := (kc.keep n (by omega)).trans hb
  have hxbl := live_lt wc (live_of hxb)
  have none' : ∀ f : Fr, f 4 = .slice none 0 0 → f 5 = .bool false → (a < 0 ∨ (g.vars.length : Int) ≤ a ∨ ∃ u : Nat, a = (u : Int) ∧ u < g.vars.length ∧ (bF bl u = -1 ∨ ∃ D, Pre g (bF bl) [a] D ∧ 4096 < D.length)) → ∀ n' H', Kp n H n' H' →
      Fin Tryz.prog Tryz.f21.results.toList n H (fun v _ H' => ∃ c b, CostOK g c b ∧ b = costB g ∧ ∃ res t p, v = .tuple #[.slice p res.length res.length, .bool t] ∧ RS (Value.int .i64) H' p res ∧ ShortS g b a res t) .ret ⟨f, n', H'⟩ :=
    fun f h4 h5 hx n' H' k => ⟨Or.inr rfl, [f 4, f 5], rfl, k.keep, _, _, hok, hbB, [], false, none, by rw [h4, h5]; rfl, .inl ⟨rfl, rfl⟩, (fun h => by cases h), fun _ => ⟨rfl, hx⟩⟩
  by_cases ha0 : a < 0
  · repeat (first | apply WK.seq | apply WK.block | apply WK.skipSeq | apply WK.skipBlock | apply WK.retSeq | apply WK.retBlock | apply WK.exitSeq | apply WK.exitHere | refine WK.exitOn rfl ?_ | ((first | (refine WK.rgn ?_ ?_; kernel_rfl) | refine AtCall.now ?_); simp (config := { maxSteps := 1000000 }) only [SS, forall_const, wx, tguard, acallee, top, tval, fput, tor, vsh, vbin, tload, tload2, tload3, tidx, tidx2, tidx3, tfa, tfa2, tlen2, tpick, textr, tbox, one, tbs, tbs2, afill, Go.AM.splice, tsl, tsl2, tsl3, tsl4, tsl5, Go.AM.bound, tap, tap2, tap3, tap4, tsrc, tsrc2, Int.reduceEq, Int.reduceNeg, Nat.reduceGT, Nat.reduceLT, Nat.reduceLeDiff, Nat.reduceEqDiff, ↓reduceIte, reduceCtorEq, Int.reduceToNat, Int.reduceLE, Int.reduceLT, Nat.reduceAdd, Nat.reduceMul, ha0, ff_21]) | (refine WK.condT ?_ ?_; focus (simp only [ev_tmp, ev_const, fset_apply, Nat.reduceEqDiff, ↓reduceIte, decide_true, decide_false, ha0, ff_21]; done)) | (refine WK.condF ?_ ?_; focus (simp only [ev_tmp, ev_const, fset_apply, Nat.reduceEqDiff, ↓reduceIte, decide_true, decide_false, ha0, ff_21]; done)))
    exact WK.retNil (none' _ rfl rfl (.inl ha0) _ _ kk)
  by_cases ha1 : (g.vars.length : Int) ≤ a
  · repeat (first | apply WK.seq | apply WK.block | apply WK.skipSeq | apply WK.skipBlock | apply WK.retSeq | apply WK.retBlock | apply WK.exitSeq | apply WK.exitHere | refine WK.exitOn rfl ?_ | ((first | (refine WK.rgn ?_ ?_; kernel_rfl) | refine AtCall.now ?_); simp (config := { maxSteps := 1000000 }) only [SS, forall_const, wx, tguard, acallee, top, tval, fput, tor, vsh, vbin, tload, tload2, tload3, tidx, tidx2, tidx3, tfa, tfa2, tlen2, tpick, textr, tbox, one, tbs, tbs2, afill, Go.AM.splice, tsl, tsl2, tsl3, tsl4, tsl5, Go.AM.bound, tap, tap2, tap3, tap4, tsrc, tsrc2, Int.reduceEq, Int.reduceNeg, Nat.reduceGT, Nat.reduceLT, Nat.reduceLeDiff, Nat.reduceEqDiff, ↓reduceIte, reduceCtorEq, Int.reduceToNat, Int.reduceLE, Int.reduceLT, Nat.reduceAdd, Nat.reduceMul, ha0, ha1, ff_21]) | (refine WK.condT ?_ ?_; focus (simp only [ev_tmp, ev_const, fset_apply, Nat.reduceEqDiff, ↓reduceIte, decide_true, decide_false, ha0, ha1, ff_21]; done)) | (refine WK.condF ?_ ?_; focus (simp only [ev_tmp, ev_const, fset_apply, Nat.reduceEqDiff, ↓reduceIte, decide_true, decide_false, ha0, ha1, ff_21]; done)))
    exact WK.retNil (none' _ rfl rfl (.inr (.inl ha1)) _ _ kk)
  obtain ⟨u0, rfl⟩ : ∃ u : Nat, a = u := ⟨a.toNat, by omega⟩
  have hu0 : u0 < g.vars.length := by omega
  have hu0' : ¬ g.vars.length ≤ u0 := by omega
  have hneg : ((u0 : Int) < 0) = False := by simp
  obtain ⟨ord, hrank, hall⟩ := hok.ranked
  repeat (first | apply WK.seq | apply WK.block | apply WK.skipSeq | apply WK.skipBlock | apply WK.retSeq | apply WK.retBlock | apply WK.exitSeq | apply WK.exitHere | refine WK.exitOn rfl ?_ | ((first | (refine WK.rgn ?_ ?_; kernel_rfl) | refine AtCall.now ?_); simp (config := { maxSteps := 1000000 }) only [SS, forall_const, wx, tguard, acallee, top, tval, fput, tor, vsh, vbin, tload, tload2, tload3, tidx, tidx2, tidx3, tfa, tfa2, tlen2, tpick, textr, tbox, one, tbs, tbs2, afill, Go.AM.splice, tsl, tsl2, tsl3, tsl4, tsl5, Go.AM.bound, tap, tap2, tap3, tap4, tsrc, tsrc2, Int.reduceEq, Int.reduceNeg, Nat.reduceGT, Nat.reduceLT, Nat.reduceLeDiff, Nat.reduceEqDiff, ↓reduceIte, reduceCtorEq, Int.reduceToNat, Int.reduceLE, Int.reduceLT, Nat.reduceAdd, Nat.reduceMul, hneg, hu0', ebs_28_1, ff_21]) | (refine WK.condT ?_ ?_; focus (simp only [ev_tmp, ev_const, fset_apply, Nat.reduceEqDiff, ↓reduceIte, decide_true, decide_false, hneg, hu0', ebs_28_1, ff_21]; done)) | (refine WK.condF ?_ ?_; focus (simp only [ev_tmp, ev_const, fset_apply, Nat.reduceEqDiff, ↓reduceIte, decide_true, decide_false, hneg, hu0', ebs_28_1, ff_21]; done)))
  have kn := Kp.new nc Hc (.cells [.int .i64 (u0 : Nat)] 3 true)
  have hy0 := hset_at Hc nc (.cells [.int .i64 (u0 : Nat)] 3 true)
  generalize hset Hc nc (.cells [.int .i64 (u0 : Nat)] 3 true) = H3 at *
  have gb : ∀ u, u < g.vars.length → (bl.map (Value.int .i64))[u]? = some (.int .i64 (bF bl u)) := fun u hu => by
    have hul : u < bl.length := by omega
    rw [List.getElem?_map, List.getElem?_eq_getElem hul]
    simp [bF, hul]
  rcases hall u0 hu0 with hin | ⟨_, _, hb1⟩
  · obtain ⟨D, hD⟩ := hrank.pre u0 hin
    refine WK.loop (fun k s => ∃ (out drem : List Int) (S : List Nat) (y : Nat) (cs : List Value), Kp nc Hc s.n s.H ∧ s.f 2 = .pointer (some ⟨n, 0, none⟩) ∧ s.f 7 = .slice (some ⟨n + 1 + 2, 0, none⟩) g.vars.length g.vars.length ∧ IL nc s.H y (s.f 8) out ∧ s.f 9 = .slice (some ⟨y, 0, none⟩) S.length S.length ∧ s.H y = .cells cs 3 true ∧ cs.take S.length = S.reverse.map natC ∧ nc ≤ y ∧
        out ++ drem = D ∧ Pre g (bF bl) (S.map fun u : Nat => (u : Int)) drem ∧ out.length ≤ 4096 ∧ S.length ≤ 1 + 24 * out.length ∧ k = drem.length) D.length ?_ ?_
    · exact ⟨[], D, [u0], nc, [.int .i64 (u0 : Nat)], kn, rfl, rfl, .inl ⟨rfl, rfl⟩, rfl, hy0, rfl, Nat.le_refl _, rfl, hD, by simp, by simp, rfl⟩
    rintro kk' ⟨f, n4, H4⟩ ⟨out, drem, S, y, cs, kp, f2, f7, hil, f9, hy, htk, hyn, hod, hpre, hol, hSl, rfl⟩ ih
    simp only at f2 f7 f9 hil hy ih kp
    have hw4 := kp.wf wc
    have hyl := live_lt hw4 (live_of hy)
    have hb4 := (kp.keep n (live_lt wc (live_of hbc))).trans hbc
    have hx4 := (kp.keep _ hxbl).trans hxb
    cases S with
    | nil =>
      obtain rfl := hpre.nil_inv
      rw [List.append_nil] at hod
      subst hod
      obtain ⟨p, hp, hrs⟩ := il_rs hil
      have h00 : ((0 : Int) < ((0 : Nat) : Int)) = False := by simp
      simp only [List.length_nil] at f9
      repeat (first | apply WK.seq | apply WK.block | apply WK.skipSeq | apply WK.skipBlock | apply WK.retSeq | apply WK.retBlock | apply WK.exitSeq | apply WK.exitHere | refine WK.exitOn rfl ?_ | ((first | (refine WK.rgn ?_ ?_; kernel_rfl) | refine AtCall.now ?_); simp (config := { maxSteps := 1000000 }) only [SS, forall_const, wx, tguard, acallee, top, tval, fput, tor, vsh, vbin, tload, tload2, tload3, tidx, tidx2, tidx3, tfa, tfa2, tlen2, tpick, textr, tbox, one, tbs, tbs2, afill, Go.AM.splice, tsl, tsl2, tsl3, tsl4, tsl5, Go.AM.bound, tap, tap2, tap3, tap4, tsrc, tsrc2, Int.reduceEq, Int.reduceNeg, Nat.reduceGT, Nat.reduceLT, Nat.reduceLeDiff, Nat.reduceEqDiff, ↓reduceIte, reduceCtorEq, Int.reduceToNat, Int.reduceLE, Int.reduceLT, Nat.reduceAdd, Nat.reduceMul, f9, h00, hp, ff_21]) | (refine WK.condT ?_ ?_; focus (simp only [ev_tmp, ev_const, fset_apply, Nat.reduceEqDiff, ↓reduceIte, decide_true, decide_false, f9, h00, hp, ff_21]; done)) | (refine WK.condF ?_ ?_; focus (simp only [ev_tmp, ev_const, fset_apply, Nat.reduceEqDiff, ↓reduceIte, decide_true, decide_false, f9, h00, hp, ff_21]; done)))
      (first | refine WK.retNil ⟨Or.inr rfl, _, rfl, ?_, ?_⟩ | refine WK.skipNil ⟨Or.inl rfl, _, rfl, ?_, ?_⟩)
      · exact (kk.trans kp).keep
      · simp only [packed, fset_apply, Nat.reduceEqDiff, ↓reduceIte, List.getD_cons_zero, List.getD_cons_succ, ff_21]
        exact ⟨_, _, hok, hbB, out, true, p, rfl, hrs, fun _ => ⟨u0, rfl, hu0, hD, hol⟩, fun h => by cases h⟩
    | cons u S =>
      rw [List.map_cons] at hpre
      obtain ⟨i, hi', d1, d2, e1, e2, e3, e4, rfl⟩ := hpre.cons_inv
      have hu : u < g.vars.length := by
        have := hi.left1 _ (List.getElem_mem hi')
        rw [e2] at this; omega
      obtain ⟨L, hL⟩ : ∃ L, S.length = L := ⟨_, rfl⟩
      rw [List.length_cons, hL] at f9 htk hSl
      rw [List.reverse_cons, List.map_append] at htk
      have hcs : cs[L]? = some (.int .i64 (u : Nat)) := by
        have h1 : (cs.take (L + 1))[L]? = some (.int .i64 (u : Nat)) := by
          rw [htk, List.getElem?_append_right (by simp [hL])]
          simp [hL, natC]
        rw [List.getElem?_take] at h1
        simpa using h1
      have hcl : L + 1 ≤ cs.length := by
        have := congrArg List.length htk
        rw [List.length_take] at this; simp [hL] at this; omega
      have htk2 : cs.take L = S.reverse.map natC := by
        have h1 := congrArg (List.take L) htk
        rw [List.take_take, Nat.min_eq_left (Nat.le_succ _), List.take_left' (by simp [hL])] at h1
        exact h1
      have h0 : (0 : Int) < ((L + 1 : Nat) : Int) := by omega
      have hwr : IntKind.i64.wrap (((L + 1 : Nat) : Int) - 1) = ((L : Nat) : Int) := by rw [wrap_in (by omega) (by omega)]; omega
      have hgb := gb u hu
      rw [e1] at hgb
      have hin0 : ((i : Int) < 0) = False := by simp
      obtain ⟨p8, hp8, _⟩ := il_rs hil
      by_cases h4096 : out.length = 4096
      · have h4096' : ((out.length : Int) = 4096) = True := by simp; omega
        repeat (first | apply WK.seq | apply WK.block | apply WK.skipSeq | apply WK.skipBlock | apply WK.retSeq | apply WK.retBlock | apply WK.exitSeq | apply WK.exitHere | refine WK.exitOn rfl ?_ | ((first | (refine WK.rgn ?_ ?_; kernel_rfl) | refine AtCall.now ?_); simp (config := { maxSteps := 1000000 }) only [SS, forall_const, wx, tguard, acallee, top, tval, fput, tor, vsh, vbin, tload, tload2, tload3, tidx, tidx2, tidx3, tfa, tfa2, tlen2, tpick, textr, tbox, one, tbs, tbs2, afill, Go.AM.splice, tsl, tsl2, tsl3, tsl4, tsl5, Go.AM.bound, tap, tap2, tap3, tap4, tsrc, tsrc2, Int.reduceEq, Int.reduceNeg, Nat.reduceGT, Nat.reduceLT, Nat.reduceLeDiff, Nat.reduceEqDiff, ↓reduceIte, reduceCtorEq, Int.reduceToNat, Int.reduceLE, Int.reduceLT, Nat.reduceAdd, Nat.reduceMul, f7, f9, h0, hwr, hy, hcs, hu, hx4, hgb, hin0, hp8, h4096', isz_3, Nat.lt_succ_self, Nat.le_succ, ff_21]) | (refine WK.condT ?_ ?_; focus (simp only [ev_tmp, ev_const, fset_apply, Nat.reduceEqDiff, ↓reduceIte, decide_true, decide_false, f7, f9, h0, hwr, hy, hcs, hu, hx4, hgb, hin0, hp8, h4096', isz_3, Nat.lt_succ_self, Nat.le_succ, ff_21]; done)) | (refine WK.condF ?_ ?_; focus (simp only [ev_tmp, ev_const, fset_apply, Nat.reduceEqDiff, ↓reduceIte, decide_true, decide_false, f7, f9, h0, hwr, hy, hcs, hu, hx4, hgb, hin0, hp8, h4096', isz_3, Nat.lt_succ_self, Nat.le_succ, ff_21]; done)))
        refine WK.retNil (none' _ rfl rfl (.inr (.inr ⟨u0, rfl, hu0, .inr ⟨D, hD, ?_⟩⟩)) _ _ (kk.trans kp))
        rw [← hod]; simp; omega
      · have h4096' : ((out.length : Int) = 4096) = False := by simp; omega
        repeat (first | apply WK.seq | apply WK.block | apply WK.skipSeq | apply WK.skipBlock | apply WK.retSeq | apply WK.retBlock | apply WK.exitSeq | apply WK.exitHere | refine WK.exitOn rfl ?_)
        (refine WK.rgn ?_ ?_; kernel_rfl; simp (config := { maxSteps := 1000000 }) only [SS, forall_const, wx, tguard, acallee, top, tval, fput, tor, vsh, vbin, tload, tload2, tload3, tidx, tidx2, tidx3, tfa, tfa2, tlen2, tpick, textr, tbox, one, tbs, tbs2, afill, Go.AM.splice, tsl, tsl2, tsl3, tsl4, tsl5, Go.AM.bound, tap, tap2, tap3, tap4, tsrc, tsrc2, Int.reduceEq, Int.reduceNeg, Nat.reduceGT, Nat.reduceLT, Nat.reduceLeDiff, Nat.reduceEqDiff, ↓reduceIte, reduceCtorEq, Int.reduceToNat, Int.reduceLE, Int.reduceLT, Nat.reduceAdd, Nat.reduceMul, f9, ff_21])
        repeat (first | apply WK.seq | apply WK.block | apply WK.skipSeq | apply WK.skipBlock | apply WK.retSeq | apply WK.retBlock | apply WK.exitSeq | apply WK.exitHere | refine WK.exitOn rfl ?_)
        first | (refine WK.condT ?_ ?_; focus (simp only [ev_tmp, ev_const, fset_apply, Nat.reduceEqDiff, ↓reduceIte, decide_true, decide_false, h0]; done)) | (refine WK.condF ?_ ?_; focus (simp only [ev_tmp, ev_const, fset_apply, Nat.reduceEqDiff, ↓reduceIte, decide_true, decide_false, h0]; done))
        repeat (first | apply WK.seq | apply WK.block | apply WK.skipSeq | apply WK.skipBlock | apply WK.retSeq | apply WK.retBlock | apply WK.exitSeq | apply WK.exitHere | refine WK.exitOn rfl ?_)
        (refine WK.rgn ?_ ?_; kernel_rfl; simp (config := { maxSteps := 1000000 }) only [SS, forall_const, wx, tguard, acallee, top, tval, fput, tor, vsh, vbin, tload, tload2, tload3, tidx, tidx2, tidx3, tfa, tfa2, tlen2, tpick, textr, tbox, one, tbs, tbs2, afill, Go.AM.splice, tsl, tsl2, tsl3, tsl4, tsl5, Go.AM.bound, tap, tap2, tap3, tap4, tsrc, tsrc2, Int.reduceEq, Int.reduceNeg, Nat.reduceGT, Nat.reduceLT, Nat.reduceLeDiff, Nat.reduceEqDiff, ↓reduceIte, reduceCtorEq, Int.reduceToNat, Int.reduceLE, Int.reduceLT, Nat.reduceAdd, Nat.reduceMul, f9, hwr, hy, hcs, Nat.lt_succ_self, ff_21])
        repeat (first | apply WK.seq | apply WK.block | apply WK.skipSeq | apply WK.skipBlock | apply WK.retSeq | apply WK.retBlock | apply WK.exitSeq | apply WK.exitHere | refine WK.exitOn rfl ?_)
        (refine WK.rgn ?_ ?_; kernel_rfl; simp (config := { maxSteps := 1000000 }) only [SS, forall_const, wx, tguard, acallee, top, tval, fput, tor, vsh, vbin, tload, tload2, tload3, tidx, tidx2, tidx3, tfa, tfa2, tlen2, tpick, textr, tbox, one, tbs, tbs2, afill, Go.AM.splice, tsl, tsl2, tsl3, tsl4, tsl5, Go.AM.bound, tap, tap2, tap3, tap4, tsrc, tsrc2, Int.reduceEq, Int.reduceNeg, Nat.reduceGT, Nat.reduceLT, Nat.reduceLeDiff, Nat.reduceEqDiff, ↓reduceIte, reduceCtorEq, Int.reduceToNat, Int.reduceLE, Int.reduceLT, Nat.reduceAdd, Nat.reduceMul, f9, hwr, hy, isz_3, Nat.le_succ, ff_21])
        repeat (first | apply WK.seq | apply WK.block | apply WK.skipSeq | apply WK.skipBlock | apply WK.retSeq | apply WK.retBlock | apply WK.exitSeq | apply WK.exitHere | refine WK.exitOn rfl ?_)
        (refine WK.rgn ?_ ?_; kernel_rfl; simp (config := { maxSteps := 1000000 }) only [SS, forall_const, wx, tguard, acallee, top, tval, fput, tor, vsh, vbin, tload, tload2, tload3, tidx, tidx2, tidx3, tfa, tfa2, tlen2, tpick, textr, tbox, one, tbs, tbs2, afill, Go.AM.splice, tsl, tsl2, tsl3, tsl4, tsl5, Go.AM.bound, tap, tap2, tap3, tap4, tsrc, tsrc2, Int.reduceEq, Int.reduceNeg, Nat.reduceGT, Nat.reduceLT, Nat.reduceLeDiff, Nat.reduceEqDiff, ↓reduceIte, reduceCtorEq, Int.reduceToNat, Int.reduceLE, Int.reduceLT, Nat.reduceAdd, Nat.reduceMul, f7, hu, hx4, hgb, hin0, hp8, h4096', ff_21])
        repeat (first | apply WK.seq | apply WK.block | apply WK.skipSeq | apply WK.skipBlock | apply WK.retSeq | apply WK.retBlock | apply WK.exitSeq | apply WK.exitHere | refine WK.exitOn rfl ?_)
        first | (refine WK.condT ?_ ?_; focus (simp only [ev_tmp, ev_const, fset_apply, Nat.reduceEqDiff, ↓reduceIte, decide_true, decide_false]; done)) | (refine WK.condF ?_ ?_; focus (simp only [ev_tmp, ev_const, fset_apply, Nat.reduceEqDiff, ↓reduceIte, decide_true, decide_false]; done))
        repeat (first | apply WK.seq | apply WK.block | apply WK.skipSeq | apply WK.skipBlock | apply WK.retSeq | apply WK.retBlock | apply WK.exitSeq | apply WK.exitHere | refine WK.exitOn rfl ?_)
        have hbg : out.length + 1 ≤ bigN := by unfold bigN; omega
        refine WK.cut (fun s => Kp nc Hc s.n s.H ∧ s.f 2 = .pointer (some ⟨n, 0, none⟩) ∧ s.f 7 = .slice (some ⟨n + 1 + 2, 0, none⟩) g.vars.length g.vars.length ∧ IL nc s.H y (s.f 8) (out ++ [(i : Int)]) ∧ s.f 9 = .slice (some ⟨y, 0, none⟩) L L ∧ s.H y = .cells cs 3 true ∧ s.f 10 = .int .i64 (u : Nat)) ?_ ?_
        · obtain ⟨v8, hv8⟩ : ∃ v8, f 8 = v8 := ⟨_, rfl⟩
          rw [hv8] at hil
          rcases hil with ⟨rfl, hoe⟩ | ⟨w, ds, rfl, hw', hwt, hnw, hwr'⟩
          · repeat (first | apply WK.seq | apply WK.block | apply WK.skipSeq | apply WK.skipBlock | apply WK.retSeq | apply WK.retBlock | apply WK.exitSeq | apply WK.exitHere | refine WK.exitOn rfl ?_ | ((first | (refine WK.rgn ?_ ?_; kernel_rfl) | refine AtCall.now ?_); simp (config := { maxSteps := 1000000 }) only [SS, forall_const, wx, tguard, acallee, top, tval, fput, tor, vsh, vbin, tload, tload2, tload3, tidx, tidx2, tidx3, tfa, tfa2, tlen2, tpick, textr, tbox, one, tbs, tbs2, afill, Go.AM.splice, tsl, tsl2, tsl3, tsl4, tsl5, Go.AM.bound, tap, tap2, tap3, tap4, tsrc, tsrc2, Int.reduceEq, Int.reduceNeg, Nat.reduceGT, Nat.reduceLT, Nat.reduceLeDiff, Nat.reduceEqDiff, ↓reduceIte, reduceCtorEq, Int.reduceToNat, Int.reduceLE, Int.reduceLT, Nat.reduceAdd, Nat.reduceMul, f7, hv8, hu, hx4, hgb, ebs_28_1, ff_21]) | (refine WK.condT ?_ ?_; focus (simp only [ev_tmp, ev_const, fset_apply, Nat.reduceEqDiff, ↓reduceIte, decide_true, decide_false, f7, hv8, hu, hx4, hgb, ebs_28_1, ff_21]; done)) | (refine WK.condF ?_ ?_; focus (simp only [ev_tmp, ev_const, fset_apply, Nat.reduceEqDiff, ↓reduceIte, decide_true, decide_false, f7, hv8, hu, hx4, hgb, ebs_28_1, ff_21]; done)))
            refine WK.skipNil ⟨rfl, (kp.trans (Kp.new n4 H4 _)).trans (Kp.new (n4 + 1) _ _), f2, f7, ?_, rfl, (hset_ne _ _ _ (by omega)).trans ((hset_ne _ _ _ (by omega)).trans hy), rfl⟩
            rw [hoe]
            exact IL.grown (l := []) (hset_at _ _ _) (by have := kp.le; omega) (by omega)
          · have hwl := live_lt hw4 (live_of hw')
            have hdc : out.length ≤ ds.length := by
              have := congrArg List.length hwt
              rw [List.length_take, List.length_map] at this; omega
            have c1 : ∀ o, hset H4 n4 o w = _ := fun o => (hset_ne _ _ _ (by omega)).trans hw'
            have c2 : [n4].contains w = false := by simp; omega
            repeat (first | apply WK.seq | apply WK.block | apply WK.skipSeq | apply WK.skipBlock | apply WK.retSeq | apply WK.retBlock | apply WK.exitSeq | apply WK.exitHere | refine WK.exitOn rfl ?_ | ((first | (refine WK.rgn ?_ ?_; kernel_rfl) | refine AtCall.now ?_); simp (config := { maxSteps := 1000000 }) only [SS, forall_const, wx, tguard, acallee, top, tval, fput, tor, vsh, vbin, tload, tload2, tload3, tidx, tidx2, tidx3, tfa, tfa2, tlen2, tpick, textr, tbox, one, tbs, tbs2, afill, Go.AM.splice, tsl, tsl2, tsl3, tsl4, tsl5, Go.AM.bound, tap, tap2, tap3, tap4, tsrc, tsrc2, Int.reduceEq, Int.reduceNeg, Nat.reduceGT, Nat.reduceLT, Nat.reduceLeDiff, Nat.reduceEqDiff, ↓reduceIte, reduceCtorEq, Int.reduceToNat, Int.reduceLE, Int.reduceLT, Nat.reduceAdd, Nat.reduceMul, f7, hv8, hu, hx4, hgb, ebs_28_1, c1, c2, hdc, hwt, hbg, List.drop_zero, ff_21]) | (refine WK.condT ?_ ?_; focus (simp only [ev_tmp, ev_const, fset_apply, Nat.reduceEqDiff, ↓reduceIte, decide_true, decide_false, f7, hv8, hu, hx4, hgb, ebs_28_1, c1, c2, hdc, hwt, hbg, List.drop_zero, ff_21]; done)) | (refine WK.condF ?_ ?_; focus (simp only [ev_tmp, ev_const, fset_apply, Nat.reduceEqDiff, ↓reduceIte, decide_true, decide_false, f7, hv8, hu, hx4, hgb, ebs_28_1, c1, c2, hdc, hwt, hbg, List.drop_zero, ff_21]; done)))
            refine WK.skipNil ⟨rfl, ((kp.trans (Kp.new n4 H4 _)).set _ hnw (by omega)).trans (Kp.new (n4 + 1) _ _), f2, f7, ?_, rfl, (hset_ne _ _ _ (by omega)).trans ((hset_ne _ _ _ (Ne.symm hwr')).trans ((hset_ne _ _ _ (by omega)).trans hy)), rfl⟩
            exact IL.grown (hset_at _ _ _) (by have := kp.le; omega) (by omega)
        clear hil hy hp8 f2 f7 f9 hb4 hx4 hw4 hyl kp
        rintro ⟨f, n5, H5⟩ ⟨kp, f2, f7, hil, f9, hy, f10⟩
        simp only at kp f2 f7 hil f9 hy f10
        have hw5 := kp.wf wc
        have hb5 := (kp.keep n (live_lt wc (live_of hbc))).trans hbc
        have hx5 := (kp.keep _ hxbl).trans hxb
        have hr5 := (hr.mono hw kk).mono wc kp
        obtain ⟨z, kz, zs, tz, oz, p, e0, hz, z0, z1, z2, hp⟩ := hr5.at hi'
        have hrr := (ok.rule i hi').len
        have hpH : RA (Value.int .i64) H p g.rules[i].right := by
          obtain ⟨z', kz', zs', tz', oz', p', e0', hz', z0', z1', z2', hp'⟩ := hr.at hi'
          have hzz := ((kk.trans kp).keep z' (live_lt hw (live_of hz'))).trans hz'
          rw [e0] at e0'
          simp only [Option.some.injEq, Addr.mk.injEq] at e0'
          obtain ⟨rfl, rfl, _⟩ := e0'
          rw [hz] at hzz
          cases hzz
          rw [z1] at z1'
          simp only [Option.some.injEq, Value.slice.injEq] at z1'
          obtain ⟨rfl, _⟩ := z1'
          exact hp'
        subst e0
        have hrw : IntKind.i64.wrap ((g.rules[i].right.length : Int) - 1) = (g.rules[i].right.length : Int) - 1 := wrap_in (by omega) (by omega)
        repeat (first | apply WK.seq | apply WK.block | apply WK.skipSeq | apply WK.skipBlock | apply WK.retSeq | apply WK.retBlock | apply WK.exitSeq | apply WK.exitHere | refine WK.exitOn rfl ?_ | ((first | (refine WK.rgn ?_ ?_; kernel_rfl) | refine AtCall.now ?_); simp (config := { maxSteps := 1000000 }) only [SS, forall_const, wx, tguard, acallee, top, tval, fput, tor, vsh, vbin, tload, tload2, tload3, tidx, tidx2, tidx3, tfa, tfa2, tlen2, tpick, textr, tbox, one, tbs, tbs2, afill, Go.AM.splice, tsl, tsl2, tsl3, tsl4, tsl5, Go.AM.bound, tap, tap2, tap3, tap4, tsrc, tsrc2, Int.reduceEq, Int.reduceNeg, Nat.reduceGT, Nat.reduceLT, Nat.reduceLeDiff, Nat.reduceEqDiff, ↓reduceIte, reduceCtorEq, Int.reduceToNat, Int.reduceLE, Int.reduceLT, Nat.reduceAdd, Nat.reduceMul, f2, f7, f10, hb5, gc_2, hu, hx5, hgb, hi', hz, z1, hrw, ff_21]) | (refine WK.condT ?_ ?_; focus (simp only [ev_tmp, ev_const, fset_apply, Nat.reduceEqDiff, ↓reduceIte, decide_true, decide_false, f2, f7, f10, hb5, gc_2, hu, hx5, hgb, hi', hz, z1, hrw, ff_21]; done)) | (refine WK.condF ?_ ?_; focus (simp only [ev_tmp, ev_const, fset_apply, Nat.reduceEqDiff, ↓reduceIte, decide_true, decide_false, f2, f7, f10, hb5, gc_2, hu, hx5, hgb, hi', hz, z1, hrw, ff_21]; done)))
        refine WK.loop (fun k s => ∃ (j : Nat) (S1 : List Nat) (y : Nat) (cs : List Value), Kp nc Hc s.n s.H ∧ s.f 2 = .pointer (some ⟨n, 0, none⟩) ∧ s.f 7 = .slice (some ⟨n + 1 + 2, 0, none⟩) g.vars.length g.vars.length ∧ IL nc s.H y (s.f 8) (out ++ [(i : Int)]) ∧ s.f 9 = .slice (some ⟨y, 0, none⟩) S1.length S1.length ∧ s.H y = .cells cs 3 true ∧ cs.take S1.length = S1.reverse.map natC ∧ nc ≤ y ∧
            s.f 11 = .slice p g.rules[i].right.length g.rules[i].right.length ∧ s.f 12 = .int .i64 ((g.rules[i].right.length : Int) - 1 - (j : Nat)) ∧ j ≤ g.rules[i].right.length ∧ (S1.map fun u : Nat => (u : Int)) = (g.rules[i].right.drop (g.rules[i].right.length - j)).filter (fun s => decide (0 ≤ s)) ++ S.map (fun u : Nat => (u : Int)) ∧ S1.length ≤ S.length + j ∧ k = g.rules[i].right.length - j) g.rules[i].right.length ?_ ?_
        · exact ⟨0, S, y, cs, kp, f2, f7, hil, by rw [hL]; exact f9, hy, by rw [hL]; exact htk2, hyn, rfl, by show Value.int .i64 ((g.rules[i].right.length : Int) - 1) = _; simp, Nat.zero_le _, by simp, by omega, rfl⟩
        clear hil hy f2 f7 f9 f10 hb5 hx5 hw5 kp hp hr5 hz htk htk2 hyn hcs hcl
        rintro kk'' ⟨f, n6, H6⟩ ⟨j, S1, y, cs, kp, f2, f7, hil, f9, hy, htk, hyn, f11, f12, hj, hS1, hS1l, rfl⟩ ih2
        simp only at kp f2 f7 hil f9 hy f11 f12 ih2
        have hw6 := kp.wf wc
        have hyl := live_lt hw6 (live_of hy)
        by_cases hjl : j < g.rules[i].right.length
        · obtain ⟨q, hq⟩ : ∃ q : Nat, (g.rules[i].right.length : Int) - 1 - j = q := ⟨g.rules[i].right.length - 1 - j, by omega⟩
          have hql : q < g.rules[i].right.length := by omega
          have hq0 : (0 ≤ (q : Int)) = True := by simp
          have hqw : IntKind.i64.wrap ((q : Int) - 1) = (g.rules[i].right.length : Int) - 1 - ((j + 1 : Nat) : Int) := by rw [wrap_in (by omega) (by omega)]; omega
          rw [hq] at f12
          have hp6 := hpH.mono hw (kk.trans kp)
          obtain ⟨x2, kx2, xs2, tx2, ox2, rfl, hx2, ex2⟩ := hp6.at hql
          have hdrop : g.rules[i].right.drop (g.rules[i].right.length - (j + 1)) = g.rules[i].right[q] :: g.rules[i].right.drop (g.rules[i].right.length - j) := by
            have : g.rules[i].right.length - (j + 1) = q := by omega
            rw [this, List.drop_eq_getElem_cons hql]
            congr 2
            omega
          repeat (first | apply WK.seq | apply WK.block | apply WK.skipSeq | apply WK.skipBlock | apply WK.retSeq | apply WK.retBlock | apply WK.exitSeq | apply WK.exitHere | refine WK.exitOn rfl ?_ | ((first | (refine WK.rgn ?_ ?_; kernel_rfl) | refine AtCall.now ?_); simp (config := { maxSteps := 1000000 }) only [SS, forall_const, wx, tguard, acallee, top, tval, fput, tor, vsh, vbin, tload, tload2, tload3, tidx, tidx2, tidx3, tfa, tfa2, tlen2, tpick, textr, tbox, one, tbs, tbs2, afill, Go.AM.splice, tsl, tsl2, tsl3, tsl4, tsl5, Go.AM.bound, tap, tap2, tap3, tap4, tsrc, tsrc2, Int.reduceEq, Int.reduceNeg, Nat.reduceGT, Nat.reduceLT, Nat.reduceLeDiff, Nat.reduceEqDiff, ↓reduceIte, reduceCtorEq, Int.reduceToNat, Int.reduceLE, Int.reduceLT, Nat.reduceAdd, Nat.reduceMul, f11, f12, hq0, hql, hx2, ex2, ff_21]) | (refine WK.condT ?_ ?_; focus (simp only [ev_tmp, ev_const, fset_apply, Nat.reduceEqDiff, ↓reduceIte, decide_true, decide_false, f11, f12, hq0, hql, hx2, ex2, ff_21]; done)) | (refine WK.condF ?_ ?_; focus (simp only [ev_tmp, ev_const, fset_apply, Nat.reduceEqDiff, ↓reduceIte, decide_true, decide_false, f11, f12, hq0, hql, hx2, ex2, ff_21]; done)))
          refine AtCall.by (isVar_gives _ _ _) ?_
          rintro v n7 H7 hk7 ⟨rfl, rfl, rfl⟩
          by_cases hs0 : 0 ≤ g.rules[i].right[q]
          · obtain ⟨s, hs⟩ : ∃ s : Nat, g.rules[i].right[q] = s := ⟨g.rules[i].right[q].toNat, by omega⟩
            have hlc : S1.length ≤ cs.length := by
              have := congrArg List.length htk
              rw [List.length_take] at this; simp at this; omega
            have c1 : ∀ o, hset H7 n7 o y = _ := fun o => (hset_ne _ _ _ (by omega)).trans hy
            have c2 : [n7].contains y = false := by simp; omega
            have hbg2 : S1.length + 1 ≤ bigN := by unfold bigN; omega
            simp (config := { maxSteps := 1000000 }) only [SS, forall_const, wx, tguard, acallee, top, tval, fput, tor, vsh, vbin, tload, tload2, tload3, tidx, tidx2, tidx3, tfa, tfa2, tlen2, tpick, textr, tbox, one, tbs, tbs2, afill, Go.AM.splice, tsl, tsl2, tsl3, tsl4, tsl5, Go.AM.bound, tap, tap2, tap3, tap4, tsrc, tsrc2, Int.reduceEq, Int.reduceNeg, Nat.reduceGT, Nat.reduceLT, Nat.reduceLeDiff, Nat.reduceEqDiff, ↓reduceIte, reduceCtorEq, Int.reduceToNat, Int.reduceLE, Int.reduceLT, Nat.reduceAdd, Nat.reduceMul, hs0, ff_21]
            repeat (first | apply WK.seq | apply WK.block | apply WK.skipSeq | apply WK.skipBlock | apply WK.retSeq | apply WK.retBlock | apply WK.exitSeq | apply WK.exitHere | refine WK.exitOn rfl ?_ | ((first | (refine WK.rgn ?_ ?_; kernel_rfl) | refine AtCall.now ?_); simp (config := { maxSteps := 1000000 }) only [SS, forall_const, wx, tguard, acallee, top, tval, fput, tor, vsh, vbin, tload, tload2, tload3, tidx, tidx2, tidx3, tfa, tfa2, tlen2, tpick, textr, tbox, one, tbs, tbs2, afill, Go.AM.splice, tsl, tsl2, tsl3, tsl4, tsl5, Go.AM.bound, tap, tap2, tap3, tap4, tsrc, tsrc2, Int.reduceEq, Int.reduceNeg, Nat.reduceGT, Nat.reduceLT, Nat.reduceLeDiff, Nat.reduceEqDiff, ↓reduceIte, reduceCtorEq, Int.reduceToNat, Int.reduceLE, Int.reduceLT, Nat.reduceAdd, Nat.reduceMul, f9, f11, f12, hql, hx2, ex2, hs, ebs_28_1, c1, c2, hlc, htk, hbg2, List.drop_zero, ff_21]) | (refine WK.condT ?_ ?_; focus (simp only [ev_tmp, ev_const, fset_apply, Nat.reduceEqDiff, ↓reduceIte, decide_true, decide_false, f9, f11, f12, hql, hx2, ex2, hs, ebs_28_1, c1, c2, hlc, htk, hbg2, List.drop_zero, ff_21]; done)) | (refine WK.condF ?_ ?_; focus (simp only [ev_tmp, ev_const, fset_apply, Nat.reduceEqDiff, ↓reduceIte, decide_true, decide_false, f9, f11, f12, hql, hx2, ex2, hs, ebs_28_1, c1, c2, hlc, htk, hbg2, List.drop_zero, ff_21]; done)))
            refine ih2 (g.rules[i].right.length - (j + 1)) (by omega) _ ⟨j + 1, s :: S1, n7 + 1, S1.reverse.map natC ++ [.int .i64 (s : Nat)], ((kp.trans (Kp.new n7 H7 _)).set _ hyn (by omega)).trans (Kp.new (n7 + 1) _ _), f2, f7, ?_, rfl, hset_at _ _ _, ?_, by have := kp.le; omega, f11, ?_, hjl, ?_, by simp; omega, rfl⟩
            · rcases hil with h | ⟨w, ds, h1, h2, h3, h4, h5⟩
              · exact .inl h
              · have hwl := live_lt hw6 (live_of h2)
                exact .inr ⟨w, ds, h1, (hset_ne _ _ _ (by omega)).trans ((hset_ne _ _ _ h5).trans ((hset_ne _ _ _ (by omega)).trans h2)), h3, h4, by omega⟩
            · rw [List.reverse_cons, List.map_append]
              exact List.take_of_length_le (by simp)
            · simp only [packed, fset_apply, Nat.reduceEqDiff, ↓reduceIte, List.getD_cons_zero, List.getD_cons_succ, f12, hqw, ff_21]
            · rw [hdrop, List.filter_cons_of_pos (by simpa using hs0), List.map_cons, hS1, hs]
              rfl
          · simp (config := { maxSteps := 1000000 }) only [SS, forall_const, wx, tguard, acallee, top, tval, fput, tor, vsh, vbin, tload, tload2, tload3, tidx, tidx2, tidx3, tfa, tfa2, tlen2, tpick, textr, tbox, one, tbs, tbs2, afill, Go.AM.splice, tsl, tsl2, tsl3, tsl4, tsl5, Go.AM.bound, tap, tap2, tap3, tap4, tsrc, tsrc2, Int.reduceEq, Int.reduceNeg, Nat.reduceGT, Nat.reduceLT, Nat.reduceLeDiff, Nat.reduceEqDiff, ↓reduceIte, reduceCtorEq, Int.reduceToNat, Int.reduceLE, Int.reduceLT, Nat.reduceAdd, Nat.reduceMul, hs0, ff_21]
            repeat (first | apply WK.seq | apply WK.block | apply WK.skipSeq | apply WK.skipBlock | apply WK.retSeq | apply WK.retBlock | apply WK.exitSeq | apply WK.exitHere | refine WK.exitOn rfl ?_ | ((first | (refine WK.rgn ?_ ?_; kernel_rfl) | refine AtCall.now ?_); simp (config := { maxSteps := 1000000 }) only [SS, forall_const, wx, tguard, acallee, top, tval, fput, tor, vsh, vbin, tload, tload2, tload3, tidx, tidx2, tidx3, tfa, tfa2, tlen2, tpick, textr, tbox, one, tbs, tbs2, afill, Go.AM.splice, tsl, tsl2, tsl3, tsl4, tsl5, Go.AM.bound, tap, tap2, tap3, tap4, tsrc, tsrc2, Int.reduceEq, Int.reduceNeg, Nat.reduceGT, Nat.reduceLT, Nat.reduceLeDiff, Nat.reduceEqDiff, ↓reduceIte, reduceCtorEq, Int.reduceToNat, Int.reduceLE, Int.reduceLT, Nat.reduceAdd, Nat.reduceMul, f12, ff_21]) | (refine WK.condT ?_ ?_; focus (simp only [ev_tmp, ev_const, fset_apply, Nat.reduceEqDiff, ↓reduceIte, decide_true, decide_false, f12, ff_21]; done)) | (refine WK.condF ?_ ?_; focus (simp only [ev_tmp, ev_const, fset_apply, Nat.reduceEqDiff, ↓reduceIte, decide_true, decide_false, f12, ff_21]; done)))
            refine ih2 (g.rules[i].right.length - (j + 1)) (by omega) _ ⟨j + 1, S1, y, cs, kp, f2, f7, hil, f9, hy, htk, hyn, f11, ?_, hjl, ?_, by omega, rfl⟩
            · simp only [packed, fset_apply, Nat.reduceEqDiff, ↓reduceIte, List.getD_cons_zero, List.getD_cons_succ, f12, hqw, ff_21]
            · rw [hdrop, List.filter_cons_of_neg (by simpa using hs0)]
              exact hS1
        · have hje : j = g.rules[i].right.length := by omega
          subst hje
          have hlt : ((g.rules[i].right.length : Int) - 1 - g.rules[i].right.length) = -1 := by omega
          rw [hlt] at f12
          have hm1 : ((0 : Int) ≤ -1) = False := by simp
          rw [Nat.sub_self, List.drop_zero] at hS1
          repeat (first | apply WK.seq | apply WK.block | apply WK.skipSeq | apply WK.skipBlock | apply WK.retSeq | apply WK.retBlock | apply WK.exitSeq | apply WK.exitHere | refine WK.exitOn rfl ?_ | ((first | (refine WK.rgn ?_ ?_; kernel_rfl) | refine AtCall.now ?_); simp (config := { maxSteps := 1000000 }) only [SS, forall_const, wx, tguard, acallee, top, tval, fput, tor, vsh, vbin, tload, tload2, tload3, tidx, tidx2, tidx3, tfa, tfa2, tlen2, tpick, textr, tbox, one, tbs, tbs2, afill, Go.AM.splice, tsl, tsl2, tsl3, tsl4, tsl5, Go.AM.bound, tap, tap2, tap3, tap4, tsrc, tsrc2, Int.reduceEq, Int.reduceNeg, Nat.reduceGT, Nat.reduceLT, Nat.reduceLeDiff, Nat.reduceEqDiff, ↓reduceIte, reduceCtorEq, Int.reduceToNat, Int.reduceLE, Int.reduceLT, Nat.reduceAdd, Nat.reduceMul, f12, hm1, ff_21]) | (refine WK.condT ?_ ?_; focus (simp only [ev_tmp, ev_const, fset_apply, Nat.reduceEqDiff, ↓reduceIte, decide_true, decide_false, f12, hm1, ff_21]; done)) | (refine WK.condF ?_ ?_; focus (simp only [ev_tmp, ev_const, fset_apply, Nat.reduceEqDiff, ↓reduceIte, decide_true, decide_false, f12, hm1, ff_21]; done)))
          refine ih (d1 ++ d2).length (by simp) _ ⟨out ++ [(i : Int)], d1 ++ d2, S1, y, cs, kp, f2, f7, hil, f9, hy, htk, hyn, by rw [← hod]; simp, ?_, by rw [List.length_append]; simp; omega, by rw [List.length_append]; simp; omega, rfl⟩
          rw [hS1]
          exact e3.vars.append e4
  · have hneg1 : ((-1 : Int) < 0) = True := by simp
    have hgb := gb u0 hu0
    rw [hb1] at hgb
    have hx3 := (kn.keep _ hxbl).trans hxb
    have h01 : ((0 : Int) < ((1 : Nat) : Int)) = True := by simp
    have hw1 : IntKind.i64.wrap (((1 : Nat) : Int) - 1) = ((0 : Nat) : Int) := by rw [wrap_in (by omega) (by omega)]; rfl
    refine WK.unloop ?_
    repeat (first | apply WK.seq | apply WK.block | apply WK.skipSeq | apply WK.skipBlock | apply WK.retSeq | apply WK.retBlock | apply WK.exitSeq | apply WK.exitHere | refine WK.exitOn rfl ?_ | ((first | (refine WK.rgn ?_ ?_; kernel_rfl) | refine AtCall.now ?_); simp (config := { maxSteps := 1000000 }) only [SS, forall_const, wx, tguard, acallee, top, tval, fput, tor, vsh, vbin, tload, tload2, tload3, tidx, tidx2, tidx3, tfa, tfa2, tlen2, tpick, textr, tbox, one, tbs, tbs2, afill, Go.AM.splice, tsl, tsl2, tsl3, tsl4, tsl5, Go.AM.bound, tap, tap2, tap3, tap4, tsrc, tsrc2, Int.reduceEq, Int.reduceNeg, Nat.reduceGT, Nat.reduceLT, Nat.reduceLeDiff, Nat.reduceEqDiff, ↓reduceIte, reduceCtorEq, Int.reduceToNat, Int.reduceLE, Int.reduceLT, Nat.reduceAdd, Nat.reduceMul, h01, hw1, hy0, hu0, hx3, hgb, hneg1, isz_3, ff_21]) | (refine WK.condT ?_ ?_; focus (simp only [ev_tmp, ev_const, fset_apply, Nat.reduceEqDiff, ↓reduceIte, decide_true, decide_false, h01, hw1, hy0, hu0, hx3, hgb, hneg1, isz_3, ff_21]; done)) | (refine WK.condF ?_ ?_; focus (simp only [ev_tmp, ev_const, fset_apply, Nat.reduceEqDiff, ↓reduceIte, decide_true, decide_false, h01, hw1, hy0, hu0, hx3, hgb, hneg1, isz_3, ff_21]; done)))
    trace_state
    exact WK.retNil (none' _ rfl rfl (.inr (.inr ⟨u0, rfl, hu0, .inl hb1⟩)) _ _ (kk.trans kn))
end Go.Proofs.YtihjaobjhmmboaaGreatDoor
