/- A part of a proof. Its conditions: none. -/
import Derived.Test.YtihjaobjhmmboaaGreatDoorAmUUseTells
import Derived.Test.YtihjaobjhmmboaaGreatDoorAmUUseYield
import Derived.Test.YtihjaobjhmmboaaGreatDoorAmC
set_option linter.all false
namespace Go.Proofs.YtihjaobjhmmboaaGreatDoor
open Go.AM
set_option maxRecDepth 100000

theorem ro_keep {pt pv pr : Option Addr} {g : Gram} {n n' : Nat} {H H' : Heap} (hw : WF n H) (hr : RR H pr g.rules) (hne : g.rules ≠ []) (ho : RO Tryz.prog H (.agg (gcells pt pv pr g).toArray)) (k : Kp n H n' H') : RO Tryz.prog H' (.agg (gcells pt pv pr g).toArray) := by
  intro pt' pv' pr' g' hv x kx sp hp cs ty own hx hown
  have hp' : pr = pr' ∧ g.rules.length = g'.rules.length := by
    have := congrArg (fun v => match v with | Value.agg cs => cs[2]? | _ => none) hv
    simpa [gcells] using this
  obtain ⟨x0, k0, cs0, ty0, own0, e0, hx0, _⟩ := hr hne
  rw [e0] at hp'
  obtain ⟨hp1, _⟩ := hp'
  rw [hp] at hp1
  cases hp1
  have := (k.keep x (live_lt hw (live_of hx0))).trans hx0
  rw [hx] at this
  cases this
  exact ho pt pv pr g rfl x kx none e0 cs ty own hx0 hown

theorem yield_ok {g : Gram} {form rules : List Int} (h : (yieldS g form rules).2 = 0) (hl : rules.length ≤ 4096) : ∃ out q, replayS g form rules 0 = (out, q, 0) ∧ (∀ s ∈ out, s < 0) ∧ (yieldS g form rules).1.length = out.length := by
  have eL : replayL g form rules = replayS g form rules 0 := by unfold replayL; rw [if_neg (by omega)]
  unfold yieldS at h ⊢
  rw [eL] at h ⊢
  generalize replayS g form rules 0 = R at *
  obtain ⟨out, q, e⟩ := R
  simp only at h ⊢
  by_cases he : e = 0
  · subst he
    rw [if_pos rfl] at h ⊢
    by_cases hp : 0 ≤ leadP out
    · rw [if_pos hp] at h; cases h
    · rw [if_neg hp]
      have hall : ∀ s ∈ out, s < 0 := by
        unfold leadP at hp
        by_cases hd : out.dropWhile AM.neg = []
        · have e := List.takeWhile_append_dropWhile (p := AM.neg) (l := out)
          rw [hd, List.append_nil] at e
          intro s hs
          rw [← e] at hs
          exact takeWhile_neg hs
        · rw [if_neg hd] at hp; omega
      refine ⟨out, q, rfl, hall, ?_⟩
      obtain ⟨e1, _⟩ := tw_all hall
      unfold leadV
      rw [e1]; simp
  · rw [if_neg he] at h; exact absurd h he

set_option maxHeartbeats 16000000 in
theorem derives_gives {v : Value} {g : Gram} {q : Option Addr} {rules : List Int} {n : Nat} {H : Heap} (hw : WF n H) (hG : ∀ x, G x ≠ .dead → H x = G x) (hg : RG H v g) (wg : WG g) (ho : RO Tryz.prog H v) (hq : RA (Value.int .i64) H q rules) :
    Gives Tryz.prog 5 [v, .slice q rules.length rules.length] n H fun v _ _ => v = .bool true := by
  have hg0 := hg
  obtain ⟨pt, pv, pr, rfl, ht, hv, hr⟩ := hg
  refine Gives.of orders ok5 (Nat.le_of_ble_eq_true rfl) ?_
  have hk := Kp.new n H (.cells (gcells pt pv pr g) 25 true)
  have hb := hset_at H n (.cells (gcells pt pv pr g) 25 true)
  have hG1 : ∀ x, G x ≠ .dead → hset H n (.cells (gcells pt pv pr g) 25 true) x = G x := fun x hx => by
    rw [hk.keep x, hG x hx]
    apply Classical.byContradiction
    intro hc
    rw [← hG x hx, hw x (by omega)] at hx
    exact hx rfl
-- function 5
  repeat (first | apply WK.seq | apply WK.block | apply WK.skipSeq | apply WK.skipBlock | apply WK.retSeq | apply WK.retBlock | apply WK.exitSeq | apply WK.exitHere | refine WK.exitOn rfl ?_)
  (refine WK.rgn ?_ ?_; kernel_rfl; simp (config := { maxSteps := 1000000 }) only [SS, forall_const, wx, tguard, acallee, top, tval, fput, tor, vsh, vbin, vun, tload, tload2, tload3, tidx, tidx2, tidx3, tfa, tfa2, tlen2, tpick, textr, tbox, one, tbs, tbs2, afill, Go.AM.splice, Int.reduceEq, Int.reduceNeg, Nat.reduceGT, Nat.reduceLT, Nat.reduceLeDiff, Nat.reduceEqDiff, ↓reduceIte, reduceCtorEq, Int.reduceToNat, Int.reduceLE, Int.reduceLT, Nat.reduceAdd, Nat.reduceMul, box_cells, box_one, ff_5])
  generalize hset H n (.cells (gcells pt pv pr g) 25 true) = H1 at *
  repeat (first | apply WK.seq | apply WK.block | apply WK.skipSeq | apply WK.skipBlock | apply WK.retSeq | apply WK.retBlock | apply WK.exitSeq | apply WK.exitHere | refine WK.exitOn rfl ?_)
  (refine WK.rgn ?_ ?_; kernel_rfl; simp (config := { maxSteps := 1000000 }) only [SS, forall_const, wx, tguard, acallee, top, tval, fput, tor, vsh, vbin, vun, tload, tload2, tload3, tidx, tidx2, tidx3, tfa, tfa2, tlen2, tpick, textr, tbox, one, tbs, tbs2, afill, Go.AM.splice, Int.reduceEq, Int.reduceNeg, Nat.reduceGT, Nat.reduceLT, Nat.reduceLeDiff, Nat.reduceEqDiff, ↓reduceIte, reduceCtorEq, Int.reduceToNat, Int.reduceLE, Int.reduceLT, Nat.reduceAdd, Nat.reduceMul, ff_5])
  refine AtCall.by (alive_gives _ _ hG1) ?_
  rintro v n' H' hk' ⟨rfl, rfl, rfl⟩
  simp (config := { maxSteps := 1000000 }) only [SS, forall_const, wx, tguard, acallee, top, tval, fput, tor, vsh, vbin, vun, tload, tload2, tload3, tidx, tidx2, tidx3, tfa, tfa2, tlen2, tpick, textr, tbox, one, tbs, tbs2, afill, Go.AM.splice, Int.reduceEq, Int.reduceNeg, Nat.reduceGT, Nat.reduceLT, Nat.reduceLeDiff, Nat.reduceEqDiff, ↓reduceIte, reduceCtorEq, Int.reduceToNat, Int.reduceLE, Int.reduceLT, Nat.reduceAdd, Nat.reduceMul, ff_5]
  repeat (first | apply WK.seq | apply WK.block | apply WK.skipSeq | apply WK.skipBlock | apply WK.retSeq | apply WK.retBlock | apply WK.exitSeq | apply WK.exitHere | refine WK.exitOn rfl ?_)
  first | (refine WK.condT ?_ ?_; focus (simp only [ev_tmp, ev_const, fset_apply, Nat.reduceEqDiff, ↓reduceIte, decide_true, decide_false]; done)) | (refine WK.condF ?_ ?_; focus (simp only [ev_tmp, ev_const, fset_apply, Nat.reduceEqDiff, ↓reduceIte, decide_true, decide_false]; done))
  repeat (first | apply WK.seq | apply WK.block | apply WK.skipSeq | apply WK.skipBlock | apply WK.retSeq | apply WK.retBlock | apply WK.exitSeq | apply WK.exitHere | refine WK.exitOn rfl ?_)
  (refine WK.rgn ?_ ?_; kernel_rfl; simp (config := { maxSteps := 1000000 }) only [SS, forall_const, wx, tguard, acallee, top, tval, fput, tor, vsh, vbin, vun, tload, tload2, tload3, tidx, tidx2, tidx3, tfa, tfa2, tlen2, tpick, textr, tbox, one, tbs, tbs2, afill, Go.AM.splice, Int.reduceEq, Int.reduceNeg, Nat.reduceGT, Nat.reduceLT, Nat.reduceLeDiff, Nat.reduceEqDiff, ↓reduceIte, reduceCtorEq, Int.reduceToNat, Int.reduceLE, Int.reduceLT, Nat.reduceAdd, Nat.reduceMul, hb, gc_len, gc_all, ff_5])
  refine AtCall.by (few_gives (hk.wf hw) (hg0.mono hw hk) wg) ?_
  rintro v n2 H2 k2 rfl
  cases hf : few g
  · simp (config := { maxSteps := 1000000 }) only [SS, forall_const, wx, tguard, acallee, top, tval, fput, tor, vsh, vbin, vun, tload, tload2, tload3, tidx, tidx2, tidx3, tfa, tfa2, tlen2, tpick, textr, tbox, one, tbs, tbs2, afill, Go.AM.splice, Int.reduceEq, Int.reduceNeg, Nat.reduceGT, Nat.reduceLT, Nat.reduceLeDiff, Nat.reduceEqDiff, ↓reduceIte, reduceCtorEq, Int.reduceToNat, Int.reduceLE, Int.reduceLT, Nat.reduceAdd, Nat.reduceMul, ff_5]
    repeat (first | apply WK.seq | apply WK.block | apply WK.skipSeq | apply WK.skipBlock | apply WK.retSeq | apply WK.retBlock | apply WK.exitSeq | apply WK.exitHere | refine WK.exitOn rfl ?_ | ((first | (refine WK.rgn ?_ ?_; kernel_rfl) | refine AtCall.now ?_); simp (config := { maxSteps := 1000000 }) only [SS, forall_const, wx, tguard, acallee, top, tval, fput, tor, vsh, vbin, vun, tload, tload2, tload3, tidx, tidx2, tidx3, tfa, tfa2, tlen2, tpick, textr, tbox, one, tbs, tbs2, afill, Go.AM.splice, Int.reduceEq, Int.reduceNeg, Nat.reduceGT, Nat.reduceLT, Nat.reduceLeDiff, Nat.reduceEqDiff, ↓reduceIte, reduceCtorEq, Int.reduceToNat, Int.reduceLE, Int.reduceLT, Nat.reduceAdd, Nat.reduceMul, ff_5]) | (refine WK.condT ?_ ?_; focus (simp only [ev_tmp, ev_const, fset_apply, Nat.reduceEqDiff, ↓reduceIte, decide_true, decide_false, ff_5]; done)) | (refine WK.condF ?_ ?_; focus (simp only [ev_tmp, ev_const, fset_apply, Nat.reduceEqDiff, ↓reduceIte, decide_true, decide_false, ff_5]; done)))
    (first | refine WK.retNil ⟨Or.inr rfl, _, rfl, ?_, ?_⟩ | refine WK.skipNil ⟨Or.inl rfl, _, rfl, ?_, ?_⟩)
    · exact (hk.trans k2).keep
    · simp only [packed, fset_apply, Nat.reduceEqDiff, ↓reduceIte, List.getD_cons_zero, List.getD_cons_succ, ff_5]
  have kk2 := hk.trans k2
  have hb2 := (k2.keep n (by omega)).trans hb
  simp (config := { maxSteps := 1000000 }) only [SS, forall_const, wx, tguard, acallee, top, tval, fput, tor, vsh, vbin, vun, tload, tload2, tload3, tidx, tidx2, tidx3, tfa, tfa2, tlen2, tpick, textr, tbox, one, tbs, tbs2, afill, Go.AM.splice, Int.reduceEq, Int.reduceNeg, Nat.reduceGT, Nat.reduceLT, Nat.reduceLeDiff, Nat.reduceEqDiff, ↓reduceIte, reduceCtorEq, Int.reduceToNat, Int.reduceLE, Int.reduceLT, Nat.reduceAdd, Nat.reduceMul, hb2, gc_len, gc_all, ff_5]
  refine AtCall.by (right_gives (kk2.wf hw) (hg0.mono hw kk2) wg) ?_
  rintro v n3 H3 k3 ⟨t, rfl, hok⟩
  have kk3 := kk2.trans k3
  cases t
  · simp (config := { maxSteps := 1000000 }) only [SS, forall_const, wx, tguard, acallee, top, tval, fput, tor, vsh, vbin, vun, tload, tload2, tload3, tidx, tidx2, tidx3, tfa, tfa2, tlen2, tpick, textr, tbox, one, tbs, tbs2, afill, Go.AM.splice, Int.reduceEq, Int.reduceNeg, Nat.reduceGT, Nat.reduceLT, Nat.reduceLeDiff, Nat.reduceEqDiff, ↓reduceIte, reduceCtorEq, Int.reduceToNat, Int.reduceLE, Int.reduceLT, Nat.reduceAdd, Nat.reduceMul, ff_5]
    repeat (first | apply WK.seq | apply WK.block | apply WK.skipSeq | apply WK.skipBlock | apply WK.retSeq | apply WK.retBlock | apply WK.exitSeq | apply WK.exitHere | refine WK.exitOn rfl ?_ | ((first | (refine WK.rgn ?_ ?_; kernel_rfl) | refine AtCall.now ?_); simp (config := { maxSteps := 1000000 }) only [SS, forall_const, wx, tguard, acallee, top, tval, fput, tor, vsh, vbin, vun, tload, tload2, tload3, tidx, tidx2, tidx3, tfa, tfa2, tlen2, tpick, textr, tbox, one, tbs, tbs2, afill, Go.AM.splice, Int.reduceEq, Int.reduceNeg, Nat.reduceGT, Nat.reduceLT, Nat.reduceLeDiff, Nat.reduceEqDiff, ↓reduceIte, reduceCtorEq, Int.reduceToNat, Int.reduceLE, Int.reduceLT, Nat.reduceAdd, Nat.reduceMul, ff_5]) | (refine WK.condT ?_ ?_; focus (simp only [ev_tmp, ev_const, fset_apply, Nat.reduceEqDiff, ↓reduceIte, decide_true, decide_false, ff_5]; done)) | (refine WK.condF ?_ ?_; focus (simp only [ev_tmp, ev_const, fset_apply, Nat.reduceEqDiff, ↓reduceIte, decide_true, decide_false, ff_5]; done)))
    (first | refine WK.retNil ⟨Or.inr rfl, _, rfl, ?_, ?_⟩ | refine WK.skipNil ⟨Or.inl rfl, _, rfl, ?_, ?_⟩)
    · exact kk3.keep
    · simp only [packed, fset_apply, Nat.reduceEqDiff, ↓reduceIte, List.getD_cons_zero, List.getD_cons_succ, ff_5]
  have ok := hok rfl
  have hi := ok.inG
  have hn2 := k2.le
  have hn3 := k3.le
  have hb3 := (k3.keep n (by omega)).trans hb2
  have hv64 := ok.vars
  have hv1 := ok.vars1
  have hrl := ok.rules
  have hfar : farN = 1073741824 := rfl
  by_cases h60 : (60 : Int) < rules.length
  · simp (config := { maxSteps := 1000000 }) only [SS, forall_const, wx, tguard, acallee, top, tval, fput, tor, vsh, vbin, vun, tload, tload2, tload3, tidx, tidx2, tidx3, tfa, tfa2, tlen2, tpick, textr, tbox, one, tbs, tbs2, afill, Go.AM.splice, Int.reduceEq, Int.reduceNeg, Nat.reduceGT, Nat.reduceLT, Nat.reduceLeDiff, Nat.reduceEqDiff, ↓reduceIte, reduceCtorEq, Int.reduceToNat, Int.reduceLE, Int.reduceLT, Nat.reduceAdd, Nat.reduceMul, h60, ff_5]
    repeat (first | apply WK.seq | apply WK.block | apply WK.skipSeq | apply WK.skipBlock | apply WK.retSeq | apply WK.retBlock | apply WK.exitSeq | apply WK.exitHere | refine WK.exitOn rfl ?_ | ((first | (refine WK.rgn ?_ ?_; kernel_rfl) | refine AtCall.now ?_); simp (config := { maxSteps := 1000000 }) only [SS, forall_const, wx, tguard, acallee, top, tval, fput, tor, vsh, vbin, vun, tload, tload2, tload3, tidx, tidx2, tidx3, tfa, tfa2, tlen2, tpick, textr, tbox, one, tbs, tbs2, afill, Go.AM.splice, Int.reduceEq, Int.reduceNeg, Nat.reduceGT, Nat.reduceLT, Nat.reduceLeDiff, Nat.reduceEqDiff, ↓reduceIte, reduceCtorEq, Int.reduceToNat, Int.reduceLE, Int.reduceLT, Nat.reduceAdd, Nat.reduceMul, ff_5]) | (refine WK.condT ?_ ?_; focus (simp only [ev_tmp, ev_const, fset_apply, Nat.reduceEqDiff, ↓reduceIte, decide_true, decide_false, ff_5]; done)) | (refine WK.condF ?_ ?_; focus (simp only [ev_tmp, ev_const, fset_apply, Nat.reduceEqDiff, ↓reduceIte, decide_true, decide_false, ff_5]; done)))
    (first | refine WK.retNil ⟨Or.inr rfl, _, rfl, ?_, ?_⟩ | refine WK.skipNil ⟨Or.inl rfl, _, rfl, ?_, ?_⟩)
    · exact kk3.keep
    · simp only [packed, fset_apply, Nat.reduceEqDiff, ↓reduceIte, List.getD_cons_zero, List.getD_cons_succ, ff_5]
  have h60' : ¬ 60 < rules.length := by omega
  simp (config := { maxSteps := 1000000 }) only [SS, forall_const, wx, tguard, acallee, top, tval, fput, tor, vsh, vbin, vun, tload, tload2, tload3, tidx, tidx2, tidx3, tfa, tfa2, tlen2, tpick, textr, tbox, one, tbs, tbs2, afill, Go.AM.splice, Int.reduceEq, Int.reduceNeg, Nat.reduceGT, Nat.reduceLT, Nat.reduceLeDiff, Nat.reduceEqDiff, ↓reduceIte, reduceCtorEq, Int.reduceToNat, Int.reduceLE, Int.reduceLT, Nat.reduceAdd, Nat.reduceMul, h60, h60', ff_5]
  repeat (first | apply WK.seq | apply WK.block | apply WK.skipSeq | apply WK.skipBlock | apply WK.retSeq | apply WK.retBlock | apply WK.exitSeq | apply WK.exitHere | refine WK.exitOn rfl ?_ | ((first | (refine WK.rgn ?_ ?_; kernel_rfl) | refine AtCall.now ?_); simp (config := { maxSteps := 1000000 }) only [SS, forall_const, wx, tguard, acallee, top, tval, fput, tor, vsh, vbin, vun, tload, tload2, tload3, tidx, tidx2, tidx3, tfa, tfa2, tlen2, tpick, textr, tbox, one, tbs, tbs2, afill, Go.AM.splice, Int.reduceEq, Int.reduceNeg, Nat.reduceGT, Nat.reduceLT, Nat.reduceLeDiff, Nat.reduceEqDiff, ↓reduceIte, reduceCtorEq, Int.reduceToNat, Int.reduceLE, Int.reduceLT, Nat.reduceAdd, Nat.reduceMul, hb3, gc_len, gc_all, ebs_28_1, ff_5]) | (refine WK.condT ?_ ?_; focus (simp only [ev_tmp, ev_const, fset_apply, Nat.reduceEqDiff, ↓reduceIte, decide_true, decide_false, hb3, gc_len, gc_all, ebs_28_1, ff_5]; done)) | (refine WK.condF ?_ ?_; focus (simp only [ev_tmp, ev_const, fset_apply, Nat.reduceEqDiff, ↓reduceIte, decide_true, decide_false, hb3, gc_len, gc_all, ebs_28_1, ff_5]; done)))
  have k6 := Kp.new n3 H3 (.cells [.int .i64 0] 3 true)
  have b6 := hset_at H3 n3 (.cells [.int .i64 0] 3 true)
  have kk6 := kk3.trans k6
  have hb6 := (k6.keep n (by omega)).trans hb3
  generalize hset H3 n3 (.cells [.int .i64 0] 3 true) = H6 at *
  have hw6 := kk6.wf hw
  have hp6 : RA (Value.int .i64) H6 (some ⟨n3, 0, none⟩) [(0 : Int)] := fun _ => ⟨n3, 0, _, _, _, rfl, b6, fun i y e => by
    cases i with
    | zero => simp at e; subst e; rfl
    | succ i => simp at e⟩
  refine AtCall.by (yield_gives (form := [(0 : Int)]) (rules := rules) hw6 (hg0.mono hw kk6) wg ok hp6 (hq.mono hw kk6) (by simp; omega) (fun s hs => by
      have : s = 0 := by simpa using hs
      omega)) ?_
  rintro v n7 H7 k7 ⟨p7, rfl, hp7⟩
  have kk7 := kk6.trans k7
  have hb7 := (k7.keep n (live_lt hw6 (live_of hb6))).trans hb6
  have hw7 := kk7.wf hw
  by_cases he : (yieldS g [0] rules).2 = 0
  case neg =>
    have he' : (((yieldS g [0] rules).2 : Nat) : Int) = 0 ↔ False := by simp; exact he
    simp (config := { maxSteps := 1000000 }) only [SS, forall_const, wx, tguard, acallee, top, tval, fput, tor, vsh, vbin, vun, tload, tload2, tload3, tidx, tidx2, tidx3, tfa, tfa2, tlen2, tpick, textr, tbox, one, tbs, tbs2, afill, Go.AM.splice, Int.reduceEq, Int.reduceNeg, Nat.reduceGT, Nat.reduceLT, Nat.reduceLeDiff, Nat.reduceEqDiff, ↓reduceIte, reduceCtorEq, Int.reduceToNat, Int.reduceLE, Int.reduceLT, Nat.reduceAdd, Nat.reduceMul, ff_5]
    repeat (first | apply WK.seq | apply WK.block | apply WK.skipSeq | apply WK.skipBlock | apply WK.retSeq | apply WK.retBlock | apply WK.exitSeq | apply WK.exitHere | refine WK.exitOn rfl ?_ | ((first | (refine WK.rgn ?_ ?_; kernel_rfl) | refine AtCall.now ?_); simp (config := { maxSteps := 1000000 }) only [SS, forall_const, wx, tguard, acallee, top, tval, fput, tor, vsh, vbin, vun, tload, tload2, tload3, tidx, tidx2, tidx3, tfa, tfa2, tlen2, tpick, textr, tbox, one, tbs, tbs2, afill, Go.AM.splice, Int.reduceEq, Int.reduceNeg, Nat.reduceGT, Nat.reduceLT, Nat.reduceLeDiff, Nat.reduceEqDiff, ↓reduceIte, reduceCtorEq, Int.reduceToNat, Int.reduceLE, Int.reduceLT, Nat.reduceAdd, Nat.reduceMul, he', ff_5]) | (refine WK.condT ?_ ?_; focus (simp only [ev_tmp, ev_const, fset_apply, Nat.reduceEqDiff, ↓reduceIte, decide_true, decide_false, he', ff_5]; done)) | (refine WK.condF ?_ ?_; focus (simp only [ev_tmp, ev_const, fset_apply, Nat.reduceEqDiff, ↓reduceIte, decide_true, decide_false, he', ff_5]; done)))
    (first | refine WK.retNil ⟨Or.inr rfl, _, rfl, ?_, ?_⟩ | refine WK.skipNil ⟨Or.inl rfl, _, rfl, ?_, ?_⟩)
    · exact kk7.keep
    · simp only [packed, fset_apply, Nat.reduceEqDiff, ↓reduceIte, List.getD_cons_zero, List.getD_cons_succ, ff_5]
  obtain ⟨out, qq, hrep, hneg, hlen⟩ := yield_ok he (by omega)
  obtain ⟨hword, hrules⟩ := replay_word hi rules [0] out 0 qq hrep hneg
  have hruse := hrules (fun s hs _ hp => by
    have : s = 0 := by simpa using hs
    subst this; exact .base hp)
  have hol := (replayS_ge ok rules [0] 0 (fun s hs => by
    have : s = 0 := by simpa using hs
    omega)).2
  rw [hrep] at hol
  simp only [List.length_cons, List.length_nil] at hol
  rw [he, hlen]
  have h00 : (((0 : Nat) : Int) = 0) = True := by simp
  simp (config := { maxSteps := 1000000 }) only [SS, forall_const, wx, tguard, acallee, top, tval, fput, tor, vsh, vbin, vun, tload, tload2, tload3, tidx, tidx2, tidx3, tfa, tfa2, tlen2, tpick, textr, tbox, one, tbs, tbs2, afill, Go.AM.splice, Int.reduceEq, Int.reduceNeg, Nat.reduceGT, Nat.reduceLT, Nat.reduceLeDiff, Nat.reduceEqDiff, ↓reduceIte, reduceCtorEq, Int.reduceToNat, Int.reduceLE, Int.reduceLT, Nat.reduceAdd, Nat.reduceMul, ff_5]
  repeat (first | apply WK.seq | apply WK.block | apply WK.skipSeq | apply WK.skipBlock | apply WK.retSeq | apply WK.retBlock | apply WK.exitSeq | apply WK.exitHere | refine WK.exitOn rfl ?_ | ((first | (refine WK.rgn ?_ ?_; kernel_rfl) | refine AtCall.now ?_); simp (config := { maxSteps := 1000000 }) only [SS, forall_const, wx, tguard, acallee, top, tval, fput, tor, vsh, vbin, vun, tload, tload2, tload3, tidx, tidx2, tidx3, tfa, tfa2, tlen2, tpick, textr, tbox, one, tbs, tbs2, afill, Go.AM.splice, Int.reduceEq, Int.reduceNeg, Nat.reduceGT, Nat.reduceLT, Nat.reduceLeDiff, Nat.reduceEqDiff, ↓reduceIte, reduceCtorEq, Int.reduceToNat, Int.reduceLE, Int.reduceLT, Nat.reduceAdd, Nat.reduceMul, h00, hb7, gc_len, gc_all, ff_5]) | (refine WK.condT ?_ ?_; focus (simp only [ev_tmp, ev_const, fset_apply, Nat.reduceEqDiff, ↓reduceIte, decide_true, decide_false, h00, hb7, gc_len, gc_all, ff_5]; done)) | (refine WK.condF ?_ ?_; focus (simp only [ev_tmp, ev_const, fset_apply, Nat.reduceEqDiff, ↓reduceIte, decide_true, decide_false, h00, hb7, gc_len, gc_all, ff_5]; done)))
  refine AtCall.by (useful_gives hw7 (hg0.mono hw kk7) wg ok (ro_keep hw hr ok.ne ho kk7)) ?_
  rintro v n8 H8 k8 ⟨us, xu, _, _, rfl, hlu, hxu, hus⟩
  have kk8 := kk7.trans k8
  have hw8 := kk8.wf hw
  have hb8 := (k8.keep n (live_lt hw7 (live_of hb7))).trans hb7
  simp (config := { maxSteps := 1000000 }) only [SS, forall_const, wx, tguard, acallee, top, tval, fput, tor, vsh, vbin, vun, tload, tload2, tload3, tidx, tidx2, tidx3, tfa, tfa2, tlen2, tpick, textr, tbox, one, tbs, tbs2, afill, Go.AM.splice, Int.reduceEq, Int.reduceNeg, Nat.reduceGT, Nat.reduceLT, Nat.reduceLeDiff, Nat.reduceEqDiff, ↓reduceIte, reduceCtorEq, Int.reduceToNat, Int.reduceLE, Int.reduceLT, Nat.reduceAdd, Nat.reduceMul, hb8, gc_len, gc_all, ff_5]
  refine AtCall.by (productive_gives hw8 (hg0.mono hw kk8) wg ok) ?_
  rintro v n9 H9 k9 ⟨ws, xw, _, _, rfl, hlw, hxw, hws⟩
  have kk9 := kk8.trans k9
  have hw9 := kk9.wf hw
  have hb9 := (k9.keep n (live_lt hw8 (live_of hb8))).trans hb8
  have hxu9 := (k9.keep xu (live_lt hw8 (live_of hxu))).trans hxu
  simp (config := { maxSteps := 1000000 }) only [SS, forall_const, wx, tguard, acallee, top, tval, fput, tor, vsh, vbin, vun, tload, tload2, tload3, tidx, tidx2, tidx3, tfa, tfa2, tlen2, tpick, textr, tbox, one, tbs, tbs2, afill, Go.AM.splice, Int.reduceEq, Int.reduceNeg, Nat.reduceGT, Nat.reduceLT, Nat.reduceLeDiff, Nat.reduceEqDiff, ↓reduceIte, reduceCtorEq, Int.reduceToNat, Int.reduceLE, Int.reduceLT, Nat.reduceAdd, Nat.reduceMul, hb9, gc_len, gc_all, ff_5]
  refine AtCall.by (nullable_gives hw9 (hg0.mono hw kk9) wg ok) ?_
  rintro v n10 H10 k10 ⟨es, xe, _, _, rfl, hle, hxe, hes⟩
  have kk10 := kk9.trans k10
  have hw10 := kk10.wf hw
  have hb10 := (k10.keep n (live_lt hw9 (live_of hb9))).trans hb9
  have hxu10 := (k10.keep xu (live_lt hw9 (live_of hxu9))).trans hxu9
  have hxw10 := (k10.keep xw (live_lt hw9 (live_of hxw))).trans hxw
  simp (config := { maxSteps := 1000000 }) only [SS, forall_const, wx, tguard, acallee, top, tval, fput, tor, vsh, vbin, vun, tload, tload2, tload3, tidx, tidx2, tidx3, tfa, tfa2, tlen2, tpick, textr, tbox, one, tbs, tbs2, afill, Go.AM.splice, Int.reduceEq, Int.reduceNeg, Nat.reduceGT, Nat.reduceLT, Nat.reduceLeDiff, Nat.reduceEqDiff, ↓reduceIte, reduceCtorEq, Int.reduceToNat, Int.reduceLE, Int.reduceLT, Nat.reduceAdd, Nat.reduceMul, ff_5]
  repeat (first | apply WK.seq | apply WK.block | apply WK.skipSeq | apply WK.skipBlock | apply WK.retSeq | apply WK.retBlock | apply WK.exitSeq | apply WK.exitHere | refine WK.exitOn rfl ?_ | ((first | (refine WK.rgn ?_ ?_; kernel_rfl) | refine AtCall.now ?_); simp (config := { maxSteps := 1000000 }) only [SS, forall_const, wx, tguard, acallee, top, tval, fput, tor, vsh, vbin, vun, tload, tload2, tload3, tidx, tidx2, tidx3, tfa, tfa2, tlen2, tpick, textr, tbox, one, tbs, tbs2, afill, Go.AM.splice, Int.reduceEq, Int.reduceNeg, Nat.reduceGT, Nat.reduceLT, Nat.reduceLeDiff, Nat.reduceEqDiff, ↓reduceIte, reduceCtorEq, Int.reduceToNat, Int.reduceLE, Int.reduceLT, Nat.reduceAdd, Nat.reduceMul, hb10, gc_len, gc_all, ff_5]) | (refine WK.condT ?_ ?_; focus (simp only [ev_tmp, ev_const, fset_apply, Nat.reduceEqDiff, ↓reduceIte, decide_true, decide_false, hb10, gc_len, gc_all, ff_5]; done)) | (refine WK.condF ?_ ?_; focus (simp only [ev_tmp, ev_const, fset_apply, Nat.reduceEqDiff, ↓reduceIte, decide_true, decide_false, hb10, gc_len, gc_all, ff_5]; done)))
  refine AtCall.by (cost_gives hw10 (hg0.mono hw kk10) wg ok) ?_
  rintro v n11 H11 k11 ⟨cl, bl, rfl, hc, _, hcl, _, hOK, _⟩
  have kk11 := kk10.trans k11
  have hw11 := kk11.wf hw
  have hb11 := (k11.keep n (live_lt hw10 (live_of hb10))).trans hb10
  have hxu11 := (k11.keep xu (live_lt hw10 (live_of hxu10))).trans hxu10
  have hxw11 := (k11.keep xw (live_lt hw10 (live_of hxw10))).trans hxw10
  have hxe11 := (k11.keep xe (live_lt hw10 (live_of hxe))).trans hxe
  have hlow : ∀ (l : Nat) (m : Nat), l < g.vars.length → m ≤ out.length → WdL g [(l : Int)] m → cF cl l ≤ m := fun l m hl hm hwd => by
    rcases hOK.least l m hl hwd with h | ⟨h, _⟩
    · exact h
    · omega
  have hq11 := hq.mono hw kk11
  simp (config := { maxSteps := 1000000 }) only [SS, forall_const, wx, tguard, acallee, top, tval, fput, tor, vsh, vbin, vun, tload, tload2, tload3, tidx, tidx2, tidx3, tfa, tfa2, tlen2, tpick, textr, tbox, one, tbs, tbs2, afill, Go.AM.splice, Int.reduceEq, Int.reduceNeg, Nat.reduceGT, Nat.reduceLT, Nat.reduceLeDiff, Nat.reduceEqDiff, ↓reduceIte, reduceCtorEq, Int.reduceToNat, Int.reduceLE, Int.reduceLT, Nat.reduceAdd, Nat.reduceMul, ff_5]
  repeat (first | apply WK.seq | apply WK.block | apply WK.skipSeq | apply WK.skipBlock | apply WK.retSeq | apply WK.retBlock | apply WK.exitSeq | apply WK.exitHere | refine WK.exitOn rfl ?_ | ((first | (refine WK.rgn ?_ ?_; kernel_rfl) | refine AtCall.now ?_); simp (config := { maxSteps := 1000000 }) only [SS, forall_const, wx, tguard, acallee, top, tval, fput, tor, vsh, vbin, vun, tload, tload2, tload3, tidx, tidx2, tidx3, tfa, tfa2, tlen2, tpick, textr, tbox, one, tbs, tbs2, afill, Go.AM.splice, Int.reduceEq, Int.reduceNeg, Nat.reduceGT, Nat.reduceLT, Nat.reduceLeDiff, Nat.reduceEqDiff, ↓reduceIte, reduceCtorEq, Int.reduceToNat, Int.reduceLE, Int.reduceLT, Nat.reduceAdd, Nat.reduceMul, ff_5]) | (refine WK.condT ?_ ?_; focus (simp only [ev_tmp, ev_const, fset_apply, Nat.reduceEqDiff, ↓reduceIte, decide_true, decide_false, ff_5]; done)) | (refine WK.condF ?_ ?_; focus (simp only [ev_tmp, ev_const, fset_apply, Nat.reduceEqDiff, ↓reduceIte, decide_true, decide_false, ff_5]; done)))
  refine WK.loop (fun k s => ∃ (j : Nat), s.n = n11 ∧ s.H = H11 ∧ s.f 2 = .pointer (some ⟨n, 0, none⟩) ∧ s.f 5 = .slice p7 out.length out.length ∧ s.f 7 = .slice (some ⟨xu, 0, none⟩) g.vars.length g.vars.length ∧ s.f 8 = .slice (some ⟨xw, 0, none⟩) g.vars.length g.vars.length ∧ s.f 9 = .slice (some ⟨xe, 0, none⟩) g.vars.length g.vars.length ∧ s.f 10 = .slice (some ⟨n10 + 1, 0, none⟩) g.vars.length g.vars.length ∧
      s.f 50 = .slice q rules.length rules.length ∧ s.f 51 = .int .i64 (rules.length : Nat) ∧ s.f 52 = .int .i64 (j : Nat) ∧ j ≤ rules.length ∧ k = rules.length - j) rules.length ?_ ?_
  · exact ⟨0, rfl, rfl, rfl, rfl, rfl, rfl, rfl, rfl, rfl, rfl, rfl, Nat.zero_le _, rfl⟩
  rintro kk ⟨f, n12, H12⟩ ⟨j, rfl, rfl, f2, f5, f7, f8, f9, f10, f50, f51, f52, hj, rfl⟩ ih
  simp only at f2 f5 f7 f8 f9 f10 f50 f51 f52 ih hb11 hxu11 hxw11 hxe11 hc kk11 hw11 hq11
  by_cases hjl : j < rules.length
  · have hjw : IntKind.i64.wrap ((j : Int) + 1) = ((j + 1 : Nat) : Int) := by rw [wrap_in (by omega) (by omega)]; rfl
    obtain ⟨i, hil, hk1, husd, m, hm, hwd⟩ := hruse rules[j] (List.getElem_mem hjl)
    obtain ⟨x3, k3', ds, tz3, oz3, e3', hx3, ex⟩ := hq11.at hjl
    subst e3'
    rw [hk1] at ex
    obtain ⟨z, kz, cs, ty, own, pz, e0, hz', d0, d1, d2, _⟩ := (hr.mono hw kk11).at hil
    subst e0
    obtain ⟨l, hl⟩ : ∃ l : Nat, g.rules[i].left = l := ⟨g.rules[i].left.toNat, by have := (ok.rule i hil).left0; omega⟩
    have hlv : l < g.vars.length := by have := (ok.rule i hil).left1; omega
    rw [hl] at husd hwd
    have hlu' : l < us.length := by omega
    have hlw' : l < ws.length := by omega
    have hlc' : l < cl.length := by omega
    have gu : (us.map Value.bool)[l]? = some (.bool true) := by
      have h2 := (holdO hlu').1 ((hus l).2 husd)
      rw [List.getElem?_map, List.getElem?_eq_getElem hlu', h2]; rfl
    have gw : (ws.map Value.bool)[l]? = some (.bool true) := by
      have h2 := (holdO hlw').1 ((hws l).2 (hwd.prd l (by simp) (by omega)))
      rw [List.getElem?_map, List.getElem?_eq_getElem hlw', h2]; rfl
    have gc : (cl.map natC)[l]? = some (.int .i64 (cl[l] : Nat)) := by rw [List.getElem?_map, List.getElem?_eq_getElem hlc']; rfl
    have hcl' : cF cl l = cl[l] := by simp [cF, hlc']
    have hlo := hlow l m hlv hm hwd
    have hne : (((cl[l] : Nat) : Int) = 1073741824) = False := by simp; omega
    repeat (first | apply WK.seq | apply WK.block | apply WK.skipSeq | apply WK.skipBlock | apply WK.retSeq | apply WK.retBlock | apply WK.exitSeq | apply WK.exitHere | refine WK.exitOn rfl ?_ | ((first | (refine WK.rgn ?_ ?_; kernel_rfl) | refine AtCall.now ?_); simp (config := { maxSteps := 1000000 }) only [SS, forall_const, wx, tguard, acallee, top, tval, fput, tor, vsh, vbin, vun, tload, tload2, tload3, tidx, tidx2, tidx3, tfa, tfa2, tlen2, tpick, textr, tbox, one, tbs, tbs2, afill, Go.AM.splice, Int.reduceEq, Int.reduceNeg, Nat.reduceGT, Nat.reduceLT, Nat.reduceLeDiff, Nat.reduceEqDiff, ↓reduceIte, reduceCtorEq, Int.reduceToNat, Int.reduceLE, Int.reduceLT, Nat.reduceAdd, Nat.reduceMul, f2, f7, f8, f10, f50, f51, f52, hjl, hx3, ex, hb11, gc_2, hil, hz', d0, hl, hlv, hxu11, hxw11, hc, gu, gw, gc, hne, hjw, ff_5]) | (refine WK.condT ?_ ?_; focus (simp only [ev_tmp, ev_const, fset_apply, Nat.reduceEqDiff, ↓reduceIte, decide_true, decide_false, f2, f7, f8, f10, f50, f51, f52, hjl, hx3, ex, hb11, gc_2, hil, hz', d0, hl, hlv, hxu11, hxw11, hc, gu, gw, gc, hne, hjw, ff_5]; done)) | (refine WK.condF ?_ ?_; focus (simp only [ev_tmp, ev_const, fset_apply, Nat.reduceEqDiff, ↓reduceIte, decide_true, decide_false, f2, f7, f8, f10, f50, f51, f52, hjl, hx3, ex, hb11, gc_2, hil, hz', d0, hl, hlv, hxu11, hxw11, hc, gu, gw, gc, hne, hjw, ff_5]; done)))
    refine ih (rules.length - (j + 1)) (by omega) _ ⟨j + 1, rfl, rfl, f2, f5, f7, f8, f9, f10, f50, f51, ?_, hjl, rfl⟩
    simp only [packed, fset_apply, Nat.reduceEqDiff, ↓reduceIte, List.getD_cons_zero, List.getD_cons_succ, f52, hjw, ff_5]
  · have hc0 : 0 < cl.length := by omega
    have gc : (cl.map natC)[0]? = some (.int .i64 (cl[0] : Nat)) := by rw [List.getElem?_map, List.getElem?_eq_getElem hc0]; rfl
    have hcl' : cF cl 0 = cl[0] := by simp [cF, hc0]
    have hlo := hlow 0 out.length (by omega) (Nat.le_refl _) hword
    have hge : ((cl[0] : Nat) : Int) ≤ (out.length : Int) := by omega
    have hge' : cl[0] ≤ out.length := by omega
    have hlt0' : (0 : Int) < (g.vars.length : Int) := by omega
    by_cases h0 : (0 : Int) < out.length
    · have h0' : 0 < out.length := by omega
      repeat (first | apply WK.seq | apply WK.block | apply WK.skipSeq | apply WK.skipBlock | apply WK.retSeq | apply WK.retBlock | apply WK.exitSeq | apply WK.exitHere | refine WK.exitOn rfl ?_ | ((first | (refine WK.rgn ?_ ?_; kernel_rfl) | refine AtCall.now ?_); simp (config := { maxSteps := 1000000 }) only [SS, forall_const, wx, tguard, acallee, top, tval, fput, tor, vsh, vbin, vun, tload, tload2, tload3, tidx, tidx2, tidx3, tfa, tfa2, tlen2, tpick, textr, tbox, one, tbs, tbs2, afill, Go.AM.splice, Int.reduceEq, Int.reduceNeg, Nat.reduceGT, Nat.reduceLT, Nat.reduceLeDiff, Nat.reduceEqDiff, ↓reduceIte, reduceCtorEq, Int.reduceToNat, Int.reduceLE, Int.reduceLT, Nat.reduceAdd, Nat.reduceMul, f5, f9, f10, f51, f52, hjl, hc, gc, hge, hge', hlt0', h0, h0', ff_5]) | (refine WK.condT ?_ ?_; focus (simp only [ev_tmp, ev_const, fset_apply, Nat.reduceEqDiff, ↓reduceIte, decide_true, decide_false, f5, f9, f10, f51, f52, hjl, hc, gc, hge, hge', hlt0', h0, h0', ff_5]; done)) | (refine WK.condF ?_ ?_; focus (simp only [ev_tmp, ev_const, fset_apply, Nat.reduceEqDiff, ↓reduceIte, decide_true, decide_false, f5, f9, f10, f51, f52, hjl, hc, gc, hge, hge', hlt0', h0, h0', ff_5]; done)))
      (first | refine WK.retNil ⟨Or.inr rfl, _, rfl, ?_, ?_⟩ | refine WK.skipNil ⟨Or.inl rfl, _, rfl, ?_, ?_⟩)
      · exact kk11.keep
      · simp only [packed, fset_apply, Nat.reduceEqDiff, ↓reduceIte, List.getD_cons_zero, List.getD_cons_succ, h0, h0', ff_5]
    · have h0' : ¬ 0 < out.length := by omega
      have he0 : 0 < es.length := by omega
      have ge : (es.map Value.bool)[0]? = some (.bool true) := by
        have h2 := (holdO he0).1 ((hes ((0 : Nat) : Int)).2 ((hword.nul (by omega) hi.left0 0 (by simp)).2))
        rw [List.getElem?_map, List.getElem?_eq_getElem he0, h2]; rfl
      repeat (first | apply WK.seq | apply WK.block | apply WK.skipSeq | apply WK.skipBlock | apply WK.retSeq | apply WK.retBlock | apply WK.exitSeq | apply WK.exitHere | refine WK.exitOn rfl ?_ | ((first | (refine WK.rgn ?_ ?_; kernel_rfl) | refine AtCall.now ?_); simp (config := { maxSteps := 1000000 }) only [SS, forall_const, wx, tguard, acallee, top, tval, fput, tor, vsh, vbin, vun, tload, tload2, tload3, tidx, tidx2, tidx3, tfa, tfa2, tlen2, tpick, textr, tbox, one, tbs, tbs2, afill, Go.AM.splice, Int.reduceEq, Int.reduceNeg, Nat.reduceGT, Nat.reduceLT, Nat.reduceLeDiff, Nat.reduceEqDiff, ↓reduceIte, reduceCtorEq, Int.reduceToNat, Int.reduceLE, Int.reduceLT, Nat.reduceAdd, Nat.reduceMul, f5, f9, f10, f51, f52, hjl, hc, gc, hge, hge', hlt0', h0, h0', hxe11, ge, ff_5]) | (refine WK.condT ?_ ?_; focus (simp only [ev_tmp, ev_const, fset_apply, Nat.reduceEqDiff, ↓reduceIte, decide_true, decide_false, f5, f9, f10, f51, f52, hjl, hc, gc, hge, hge', hlt0', h0, h0', hxe11, ge, ff_5]; done)) | (refine WK.condF ?_ ?_; focus (simp only [ev_tmp, ev_const, fset_apply, Nat.reduceEqDiff, ↓reduceIte, decide_true, decide_false, f5, f9, f10, f51, f52, hjl, hc, gc, hge, hge', hlt0', h0, h0', hxe11, ge, ff_5]; done)))
      (first | refine WK.retNil ⟨Or.inr rfl, _, rfl, ?_, ?_⟩ | refine WK.skipNil ⟨Or.inl rfl, _, rfl, ?_, ?_⟩)
      · exact kk11.keep
      · simp only [packed, fset_apply, Nat.reduceEqDiff, ↓reduceIte, List.getD_cons_zero, List.getD_cons_succ, h0, h0', ff_5]
end Go.Proofs.YtihjaobjhmmboaaGreatDoor
