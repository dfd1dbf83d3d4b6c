/- A part of a proof. Its conditions: none. -/
import Derived.Test.YtfbdababcdfjfaaAmNLfRight
import Derived.Test.YtfbdababcdfjfaaAmC
import Derived.Test.YtfbdababcdfjfaaAmNLfInG
set_option linter.all false
namespace Go.Proofs.Ytfbdababcdfjfaa
open Go.AM
set_option maxRecDepth 100000
def allB (none : Bool) (right : List Int) (hs : List Bool) : Bool := if none then nulB right hs else prdB right hs
theorem allB_eq (nn : Bool) (right : List Int) (hs : List Bool) : allB nn right hs = right.all fun s => if 0 ≤ s then hs.getD s.toNat false else !nn := by
  unfold allB nulB prdB
  cases nn
  · simp only [Bool.false_eq_true, if_false, Bool.not_false]
    congr 1; funext s
    split
    · rename_i h; simp; omega
    · rename_i h; simp; omega
  · simp only [if_true, Bool.not_true]
    congr 1; funext s
    split
    · rename_i h; simp [h]
    · rename_i h; simp [h]
theorem all_gives {l : Int} {right : List Int} {wt : Nat} {p : Option Addr} {x n : Nat} {H : Heap} {hs : List Bool} {nn : Bool} (hw : WF n H) (hp : RA (Value.int .i64) H p right)
    (hx : H x = .cells (hs.map .bool) 4 true) (hl : right.length ≤ maxL) (hr : ∀ s ∈ right, s < hs.length) :
    Gives Try.prog 65 [.agg #[.int .i64 l, .slice p right.length right.length, .float .f64 wt], .slice (some ⟨x, 0, none⟩) hs.length hs.length, .bool nn] n H fun v _ _ => v = .bool (allB nn right hs) := by
  refine Gives.of orders ok65 (Nat.le_of_ble_eq_true rfl) ?_
  have hk := Kp.new n H (.cells [.int .i64 l, .slice p right.length right.length, .float .f64 wt] 65 true)
  have hb := hset_at H n (.cells [.int .i64 l, .slice p right.length right.length, .float .f64 wt] 65 true)
  replace hp := hp.mono hw hk
  replace hx := (hk.keep x (live_lt hw (live_of hx))).trans hx
  repeat (first | apply WK.seq | apply WK.block | apply WK.skipSeq | apply WK.skipBlock | apply WK.retSeq | apply WK.retBlock | apply WK.exitSeq | apply WK.exitHere | refine WK.exitOn rfl ?_)
  (refine WK.rgn ?_ ?_; kernel_rfl; simp (config := { maxSteps := 1000000 }) only [SS, forall_const, wx, tguard, acallee, top, tval, fput, tor, vsh, vbin, vun, tload, tload2, tload3, tidx, tidx2, tidx3, tfa, tfa2, tlen2, tlen3, tpick, tbox, one, Int.reduceEq, Int.reduceNeg, Nat.reduceGT, Nat.reduceLT, Nat.reduceLeDiff, Nat.reduceEqDiff, ↓reduceIte, reduceCtorEq, Int.reduceToNat, Int.reduceLE, Int.reduceLT, Nat.reduceAdd, Nat.reduceMul, ff_65])
  repeat (first | apply WK.seq | apply WK.block | apply WK.skipSeq | apply WK.skipBlock | apply WK.retSeq | apply WK.retBlock | apply WK.exitSeq | apply WK.exitHere | refine WK.exitOn rfl ?_)
  generalize hset H n (.cells [.int .i64 l, .slice p right.length right.length, .float .f64 wt] 65 true) = H1 at *
  repeat (first | apply WK.seq | apply WK.block | apply WK.skipSeq | apply WK.skipBlock | apply WK.retSeq | apply WK.retBlock | apply WK.exitSeq | apply WK.exitHere | refine WK.exitOn rfl ?_ | ((first | (refine WK.rgn ?_ ?_; kernel_rfl) | refine AtCall.now ?_); simp (config := { maxSteps := 1000000 }) only [SS, forall_const, wx, tguard, acallee, top, tval, fput, tor, vsh, vbin, vun, tload, tload2, tload3, tidx, tidx2, tidx3, tfa, tfa2, tlen2, tlen3, tpick, tbox, one, Int.reduceEq, Int.reduceNeg, Nat.reduceGT, Nat.reduceLT, Nat.reduceLeDiff, Nat.reduceEqDiff, ↓reduceIte, reduceCtorEq, Int.reduceToNat, Int.reduceLE, Int.reduceLT, Nat.reduceAdd, Nat.reduceMul, hb, ff_65]) | (refine WK.condT ?_ ?_; focus (simp only [ev_tmp, ev_const, fset_apply, Nat.reduceEqDiff, ↓reduceIte, decide_true, decide_false, hb, ff_65]; done)) | (refine WK.condF ?_ ?_; focus (simp only [ev_tmp, ev_const, fset_apply, Nat.reduceEqDiff, ↓reduceIte, decide_true, decide_false, hb, ff_65]; done)))
  unfold maxL at hl
  refine WK.loop (fun k s => ∃ j, s.n = n + 1 ∧ s.H = H1 ∧ s.f 1 = .slice (some ⟨x, 0, none⟩) hs.length hs.length ∧ s.f 2 = .bool nn ∧ s.f 3 = .pointer (some ⟨n, 0, none⟩) ∧ s.f 7 = .int .i64 (j : Nat) ∧ j ≤ right.length ∧ k = right.length - j ∧ allB nn (right.take j) hs = true) right.length ?_ ?_
  · exact ⟨0, rfl, rfl, rfl, rfl, rfl, rfl, Nat.zero_le _, rfl, by rw [allB_eq]; simp⟩
  rintro kk ⟨f, n', H'⟩ ⟨j, rfl, rfl, f1, f2, f3, f7, hj, rfl, hn⟩ ih
  simp only at f1 f2 f3 f7 ih hb hp hx hk
  by_cases hjr : j < right.length
  · obtain ⟨z, kz, ds, tz, oz, rfl, hz, e⟩ := hp.at hjr
    have htj : right.take (j + 1) = right.take j ++ [right[j]] := List.take_succ_eq_append_getElem hjr
    have hlt := hr _ (List.getElem_mem hjr)
    have hjw : IntKind.i64.wrap ((j : Int) + 1) = ((j + 1 : Nat) : Int) := by rw [wrap_in (by omega) (by omega)]; rfl
    have stop : (if 0 ≤ right[j] then hs.getD right[j].toNat false else !nn) = false → allB nn right hs = false := fun h => by
      rw [allB_eq, List.all_eq_false]
      exact ⟨right[j], List.getElem_mem hjr, by rw [h]; simp⟩
    have on : (if 0 ≤ right[j] then hs.getD right[j].toNat false else !nn) = true → allB nn (right.take (j + 1)) hs = true := fun h => by
      rw [allB_eq] at hn ⊢
      rw [htj, List.all_append, hn, Bool.true_and, List.all_cons, List.all_nil, Bool.and_true]
      exact h
    by_cases h0 : 0 ≤ right[j]
    · obtain ⟨s, hs'⟩ : ∃ s : Nat, right[j] = s := ⟨right[j].toNat, by omega⟩
      have hsl : s < hs.length := by omega
      have hg : (hs.map Value.bool)[s]? = some (.bool hs[s]) := by rw [List.getElem?_map, List.getElem?_eq_getElem hsl]; rfl
      have hneg : ((s : Int) < 0) = False := by simp
      have hge : (0 ≤ (s : Int)) = True := by simp
      rw [hs'] at stop on
      have hcond : (if (0 : Int) ≤ (s : Int) then hs.getD (s : Int).toNat false else !nn) = hs[s] := by simp [hsl]
      rw [hcond] at stop on
      cases hb2 : hs[s]
      · rw [hb2] at hg
        repeat (first | apply WK.seq | apply WK.block | apply WK.skipSeq | apply WK.skipBlock | apply WK.retSeq | apply WK.retBlock | apply WK.exitSeq | apply WK.exitHere | refine WK.exitOn rfl ?_ | ((first | (refine WK.rgn ?_ ?_; kernel_rfl) | refine AtCall.now ?_); simp (config := { maxSteps := 1000000 }) only [SS, forall_const, wx, tguard, acallee, top, tval, fput, tor, vsh, vbin, vun, tload, tload2, tload3, tidx, tidx2, tidx3, tfa, tfa2, tlen2, tlen3, tpick, tbox, one, Int.reduceEq, Int.reduceNeg, Nat.reduceGT, Nat.reduceLT, Nat.reduceLeDiff, Nat.reduceEqDiff, ↓reduceIte, reduceCtorEq, Int.reduceToNat, Int.reduceLE, Int.reduceLT, Nat.reduceAdd, Nat.reduceMul, f1, f2, f3, f7, hb, hjr, hz, e, hs', hge, hx, hsl, hg, ff_65]) | (refine WK.condT ?_ ?_; focus (simp only [ev_tmp, ev_const, fset_apply, Nat.reduceEqDiff, ↓reduceIte, decide_true, decide_false, f1, f2, f3, f7, hb, hjr, hz, e, hs', hge, hx, hsl, hg, ff_65]; done)) | (refine WK.condF ?_ ?_; focus (simp only [ev_tmp, ev_const, fset_apply, Nat.reduceEqDiff, ↓reduceIte, decide_true, decide_false, f1, f2, f3, f7, hb, hjr, hz, e, hs', hge, hx, hsl, hg, ff_65]; done)))
        (first | refine WK.retNil ⟨Or.inr rfl, _, rfl, ?_, ?_⟩ | refine WK.skipNil ⟨Or.inl rfl, _, rfl, ?_, ?_⟩)
        · exact hk.keep
        · simp only [packed, fset_apply, Nat.reduceEqDiff, ↓reduceIte, List.getD_cons_zero, List.getD_cons_succ, ff_65]
          rw [stop hb2]
      · rw [hb2] at hg
        cases nn
        · repeat (first | apply WK.seq | apply WK.block | apply WK.skipSeq | apply WK.skipBlock | apply WK.retSeq | apply WK.retBlock | apply WK.exitSeq | apply WK.exitHere | refine WK.exitOn rfl ?_ | ((first | (refine WK.rgn ?_ ?_; kernel_rfl) | refine AtCall.now ?_); simp (config := { maxSteps := 1000000 }) only [SS, forall_const, wx, tguard, acallee, top, tval, fput, tor, vsh, vbin, vun, tload, tload2, tload3, tidx, tidx2, tidx3, tfa, tfa2, tlen2, tlen3, tpick, tbox, one, Int.reduceEq, Int.reduceNeg, Nat.reduceGT, Nat.reduceLT, Nat.reduceLeDiff, Nat.reduceEqDiff, ↓reduceIte, reduceCtorEq, Int.reduceToNat, Int.reduceLE, Int.reduceLT, Nat.reduceAdd, Nat.reduceMul, f1, f2, f3, f7, hb, hjr, hz, e, hs', hge, hneg, hx, hsl, hg, ff_65]) | (refine WK.condT ?_ ?_; focus (simp only [ev_tmp, ev_const, fset_apply, Nat.reduceEqDiff, ↓reduceIte, decide_true, decide_false, f1, f2, f3, f7, hb, hjr, hz, e, hs', hge, hneg, hx, hsl, hg, ff_65]; done)) | (refine WK.condF ?_ ?_; focus (simp only [ev_tmp, ev_const, fset_apply, Nat.reduceEqDiff, ↓reduceIte, decide_true, decide_false, f1, f2, f3, f7, hb, hjr, hz, e, hs', hge, hneg, hx, hsl, hg, ff_65]; done)))
          refine ih (right.length - (j + 1)) (by omega) _ ⟨j + 1, rfl, rfl, f1, f2, f3, ?_, hjr, rfl, on hb2⟩
          simp only [packed, fset_apply, Nat.reduceEqDiff, ↓reduceIte, List.getD_cons_zero, List.getD_cons_succ, f7, hjw, ff_65]
        · repeat (first | apply WK.seq | apply WK.block | apply WK.skipSeq | apply WK.skipBlock | apply WK.retSeq | apply WK.retBlock | apply WK.exitSeq | apply WK.exitHere | refine WK.exitOn rfl ?_ | ((first | (refine WK.rgn ?_ ?_; kernel_rfl) | refine AtCall.now ?_); simp (config := { maxSteps := 1000000 }) only [SS, forall_const, wx, tguard, acallee, top, tval, fput, tor, vsh, vbin, vun, tload, tload2, tload3, tidx, tidx2, tidx3, tfa, tfa2, tlen2, tlen3, tpick, tbox, one, Int.reduceEq, Int.reduceNeg, Nat.reduceGT, Nat.reduceLT, Nat.reduceLeDiff, Nat.reduceEqDiff, ↓reduceIte, reduceCtorEq, Int.reduceToNat, Int.reduceLE, Int.reduceLT, Nat.reduceAdd, Nat.reduceMul, f1, f2, f3, f7, hb, hjr, hz, e, hs', hge, hneg, hx, hsl, hg, ff_65]) | (refine WK.condT ?_ ?_; focus (simp only [ev_tmp, ev_const, fset_apply, Nat.reduceEqDiff, ↓reduceIte, decide_true, decide_false, f1, f2, f3, f7, hb, hjr, hz, e, hs', hge, hneg, hx, hsl, hg, ff_65]; done)) | (refine WK.condF ?_ ?_; focus (simp only [ev_tmp, ev_const, fset_apply, Nat.reduceEqDiff, ↓reduceIte, decide_true, decide_false, f1, f2, f3, f7, hb, hjr, hz, e, hs', hge, hneg, hx, hsl, hg, ff_65]; done)))
          refine ih (right.length - (j + 1)) (by omega) _ ⟨j + 1, rfl, rfl, f1, f2, f3, ?_, hjr, rfl, on hb2⟩
          simp only [packed, fset_apply, Nat.reduceEqDiff, ↓reduceIte, List.getD_cons_zero, List.getD_cons_succ, f7, hjw, ff_65]
    · have hneg : right[j] < 0 := by omega
      rw [if_neg h0] at stop on
      cases nn
      · repeat (first | apply WK.seq | apply WK.block | apply WK.skipSeq | apply WK.skipBlock | apply WK.retSeq | apply WK.retBlock | apply WK.exitSeq | apply WK.exitHere | refine WK.exitOn rfl ?_ | ((first | (refine WK.rgn ?_ ?_; kernel_rfl) | refine AtCall.now ?_); simp (config := { maxSteps := 1000000 }) only [SS, forall_const, wx, tguard, acallee, top, tval, fput, tor, vsh, vbin, vun, tload, tload2, tload3, tidx, tidx2, tidx3, tfa, tfa2, tlen2, tlen3, tpick, tbox, one, Int.reduceEq, Int.reduceNeg, Nat.reduceGT, Nat.reduceLT, Nat.reduceLeDiff, Nat.reduceEqDiff, ↓reduceIte, reduceCtorEq, Int.reduceToNat, Int.reduceLE, Int.reduceLT, Nat.reduceAdd, Nat.reduceMul, f1, f2, f3, f7, hb, hjr, hz, e, h0, hneg, ff_65]) | (refine WK.condT ?_ ?_; focus (simp only [ev_tmp, ev_const, fset_apply, Nat.reduceEqDiff, ↓reduceIte, decide_true, decide_false, f1, f2, f3, f7, hb, hjr, hz, e, h0, hneg, ff_65]; done)) | (refine WK.condF ?_ ?_; focus (simp only [ev_tmp, ev_const, fset_apply, Nat.reduceEqDiff, ↓reduceIte, decide_true, decide_false, f1, f2, f3, f7, hb, hjr, hz, e, h0, hneg, ff_65]; done)))
        refine ih (right.length - (j + 1)) (by omega) _ ⟨j + 1, rfl, rfl, f1, f2, f3, ?_, hjr, rfl, on rfl⟩
        simp only [packed, fset_apply, Nat.reduceEqDiff, ↓reduceIte, List.getD_cons_zero, List.getD_cons_succ, f7, hjw, ff_65]
      · repeat (first | apply WK.seq | apply WK.block | apply WK.skipSeq | apply WK.skipBlock | apply WK.retSeq | apply WK.retBlock | apply WK.exitSeq | apply WK.exitHere | refine WK.exitOn rfl ?_ | ((first | (refine WK.rgn ?_ ?_; kernel_rfl) | refine AtCall.now ?_); simp (config := { maxSteps := 1000000 }) only [SS, forall_const, wx, tguard, acallee, top, tval, fput, tor, vsh, vbin, vun, tload, tload2, tload3, tidx, tidx2, tidx3, tfa, tfa2, tlen2, tlen3, tpick, tbox, one, Int.reduceEq, Int.reduceNeg, Nat.reduceGT, Nat.reduceLT, Nat.reduceLeDiff, Nat.reduceEqDiff, ↓reduceIte, reduceCtorEq, Int.reduceToNat, Int.reduceLE, Int.reduceLT, Nat.reduceAdd, Nat.reduceMul, f1, f2, f3, f7, hb, hjr, hz, e, h0, hneg, ff_65]) | (refine WK.condT ?_ ?_; focus (simp only [ev_tmp, ev_const, fset_apply, Nat.reduceEqDiff, ↓reduceIte, decide_true, decide_false, f1, f2, f3, f7, hb, hjr, hz, e, h0, hneg, ff_65]; done)) | (refine WK.condF ?_ ?_; focus (simp only [ev_tmp, ev_const, fset_apply, Nat.reduceEqDiff, ↓reduceIte, decide_true, decide_false, f1, f2, f3, f7, hb, hjr, hz, e, h0, hneg, ff_65]; done)))
        (first | refine WK.retNil ⟨Or.inr rfl, _, rfl, ?_, ?_⟩ | refine WK.skipNil ⟨Or.inl rfl, _, rfl, ?_, ?_⟩)
        · exact hk.keep
        · simp only [packed, fset_apply, Nat.reduceEqDiff, ↓reduceIte, List.getD_cons_zero, List.getD_cons_succ, ff_65]
          rw [stop rfl]
  · repeat (first | apply WK.seq | apply WK.block | apply WK.skipSeq | apply WK.skipBlock | apply WK.retSeq | apply WK.retBlock | apply WK.exitSeq | apply WK.exitHere | refine WK.exitOn rfl ?_ | ((first | (refine WK.rgn ?_ ?_; kernel_rfl) | refine AtCall.now ?_); simp (config := { maxSteps := 1000000 }) only [SS, forall_const, wx, tguard, acallee, top, tval, fput, tor, vsh, vbin, vun, tload, tload2, tload3, tidx, tidx2, tidx3, tfa, tfa2, tlen2, tlen3, tpick, tbox, one, Int.reduceEq, Int.reduceNeg, Nat.reduceGT, Nat.reduceLT, Nat.reduceLeDiff, Nat.reduceEqDiff, ↓reduceIte, reduceCtorEq, Int.reduceToNat, Int.reduceLE, Int.reduceLT, Nat.reduceAdd, Nat.reduceMul, f1, f2, f3, f7, hb, hjr, ff_65]) | (refine WK.condT ?_ ?_; focus (simp only [ev_tmp, ev_const, fset_apply, Nat.reduceEqDiff, ↓reduceIte, decide_true, decide_false, f1, f2, f3, f7, hb, hjr, ff_65]; done)) | (refine WK.condF ?_ ?_; focus (simp only [ev_tmp, ev_const, fset_apply, Nat.reduceEqDiff, ↓reduceIte, decide_true, decide_false, f1, f2, f3, f7, hb, hjr, ff_65]; done)))
    (first | refine WK.retNil ⟨Or.inr rfl, _, rfl, ?_, ?_⟩ | refine WK.skipNil ⟨Or.inl rfl, _, rfl, ?_, ?_⟩)
    · exact hk.keep
    · simp only [packed, fset_apply, Nat.reduceEqDiff, ↓reduceIte, List.getD_cons_zero, List.getD_cons_succ, ff_65]
      rw [List.take_of_length_le (by omega)] at hn
      rw [hn]
set_option maxHeartbeats 4000000 in
theorem rounds_gives {v : Value} {g : Gram} {n : Nat} {H : Heap} {nn : Bool} (hw : WF n H) (hg : RG H v g) (wg : WG g) (ok : RightOK g) :
    Gives Try.prog 84 [v, .bool nn] n H fun v _ H' => ∃ (hs : List Bool) (x : Nat), n ≤ x ∧ v = .slice (some ⟨x, 0, none⟩) g.vars.length g.vars.length ∧ hs.length = g.vars.length ∧ H' x = .cells (hs.map .bool) 4 true ∧ ∀ v, hold hs v ↔ (if nn then Nul g v else Prd g v) := by
  have hg0 := hg
  obtain ⟨pt, pv, pr, rfl, ht, hv, hr⟩ := hg
  refine Gives.of orders ok84 (Nat.le_of_ble_eq_true rfl) ?_
  have hk := Kp.new n H (.cells (gcells pt pv pr g) 25 true)
  have hb := hset_at H n (.cells (gcells pt pv pr g) 25 true)
  have hi := ok.inG
  have hv64 := ok.vars
  have hv1 := ok.vars1
  have hvl : (g.vars.length : Int) ≤ bigN := by unfold bigN; omega
  have hvl' : g.vars.length ≤ bigN := by unfold bigN; omega
  have hrl := ok.rules
  repeat (first | apply WK.seq | apply WK.block | apply WK.skipSeq | apply WK.skipBlock | apply WK.retSeq | apply WK.retBlock | apply WK.exitSeq | apply WK.exitHere | refine WK.exitOn rfl ?_)
  (refine WK.rgn ?_ ?_; kernel_rfl; simp (config := { maxSteps := 1000000 }) only [SS, forall_const, wx, tguard, acallee, top, tval, fput, tor, vsh, vbin, tload, tload2, tload3, tstore, tstore2, tstore3, Go.AM.splice, one, tidx, tidx2, tidx3, tfa, tfa2, tlen2, tlen3, tbox, tmake, tbs, tbs2, afill, tap, tap2, tap3, tap4, tsrc, tsrc2, Int.reduceEq, Int.reduceNeg, Nat.reduceGT, Nat.reduceLT, Nat.reduceLeDiff, Nat.reduceEqDiff, ↓reduceIte, reduceCtorEq, Int.reduceToNat, Int.reduceLE, Int.reduceLT, Nat.reduceAdd, Nat.reduceMul, box_cells, box_one, ff_84])
  generalize hset H n (.cells (gcells pt pv pr g) 25 true) = H1 at *
  repeat (first | apply WK.seq | apply WK.block | apply WK.skipSeq | apply WK.skipBlock | apply WK.retSeq | apply WK.retBlock | apply WK.exitSeq | apply WK.exitHere | refine WK.exitOn rfl ?_)
  (refine WK.rgn ?_ ?_; kernel_rfl; simp (config := { maxSteps := 1000000 }) only [SS, forall_const, wx, tguard, acallee, top, tval, fput, tor, vsh, vbin, tload, tload2, tload3, tstore, tstore2, tstore3, Go.AM.splice, one, tidx, tidx2, tidx3, tfa, tfa2, tlen2, tlen3, tbox, tmake, tbs, tbs2, afill, tap, tap2, tap3, tap4, tsrc, tsrc2, Int.reduceEq, Int.reduceNeg, Nat.reduceGT, Nat.reduceLT, Nat.reduceLeDiff, Nat.reduceEqDiff, ↓reduceIte, reduceCtorEq, Int.reduceToNat, Int.reduceLE, Int.reduceLT, Nat.reduceAdd, Nat.reduceMul, hb, gc_0, gc_1, gc_2, hvl, ff_84])
  rw [rep_map]
  have k1 := Kp.new (n + 1) H1 (.cells ((List.replicate g.vars.length false).map .bool) 4 true)
  have b1 := hset_at H1 (n + 1) (.cells ((List.replicate g.vars.length false).map .bool) 4 true)
  have b0 := (k1.keep n (by omega)).trans hb
  generalize hset H1 (n + 1) (.cells ((List.replicate g.vars.length false).map .bool) 4 true) = H2 at *
  have kk := hk.trans k1
  repeat (first | apply WK.seq | apply WK.block | apply WK.skipSeq | apply WK.skipBlock | apply WK.retSeq | apply WK.retBlock | apply WK.exitSeq | apply WK.exitHere | refine WK.exitOn rfl ?_ | ((first | (refine WK.rgn ?_ ?_; kernel_rfl) | refine AtCall.now ?_); simp (config := { maxSteps := 1000000 }) only [SS, forall_const, wx, tguard, acallee, top, tval, fput, tor, vsh, vbin, tload, tload2, tload3, tstore, tstore2, tstore3, Go.AM.splice, one, tidx, tidx2, tidx3, tfa, tfa2, tlen2, tlen3, tbox, tmake, tbs, tbs2, afill, tap, tap2, tap3, tap4, tsrc, tsrc2, Int.reduceEq, Int.reduceNeg, Nat.reduceGT, Nat.reduceLT, Nat.reduceLeDiff, Nat.reduceEqDiff, ↓reduceIte, reduceCtorEq, Int.reduceToNat, Int.reduceLE, Int.reduceLT, Nat.reduceAdd, Nat.reduceMul, b0, gc_1, ff_84]) | (refine WK.condT ?_ ?_; focus (simp only [ev_tmp, ev_const, fset_apply, Nat.reduceEqDiff, ↓reduceIte, decide_true, decide_false, b0, gc_1, ff_84]; done)) | (refine WK.condF ?_ ?_; focus (simp only [ev_tmp, ev_const, fset_apply, Nat.reduceEqDiff, ↓reduceIte, decide_true, decide_false, b0, gc_1, ff_84]; done)))
  refine WK.loop (fun k s => ∃ (i x : Nat) (hs : List Bool), Kp n H s.n s.H ∧ s.f 1 = .bool nn ∧ s.f 2 = .pointer (some ⟨n, 0, none⟩) ∧ s.H n = .cells (gcells pt pv pr g) 25 true ∧ s.f 5 = .slice (some ⟨x, 0, none⟩) g.vars.length g.vars.length ∧ s.H x = .cells (hs.map .bool) 4 true ∧ n + 1 ≤ x ∧ hs.length = g.vars.length ∧
      s.f 6 = .int .i64 (i : Nat) ∧ i ≤ g.vars.length ∧ (∀ v, hold hs v → (if nn then Nul g v else Prd g v)) ∧ (ClosedR (fun r => allB nn r.right) g.rules hs ∨ i ≤ hs.count true) ∧ k = g.vars.length - i) g.vars.length ?_ ?_
  · refine ⟨0, n + 1, _, kk, rfl, rfl, b0, rfl, b1, Nat.le_refl _, by simp, rfl, Nat.zero_le _, fun v h => ?_, .inr (Nat.zero_le _), rfl⟩
    exfalso
    have := h.2
    rw [List.getD_eq_getElem?_getD, List.getElem?_replicate] at this
    split at this <;> simp at this
  rintro kk' ⟨f, n4, H4⟩ ⟨i, x, hs, kp, f1, f2, hb4, f5, hx, hxn, hhl, f6, hiv, hsound, hprog, rfl⟩ ih
  simp only at f1 f2 hb4 f5 f6 ih kp hx
  have hw4 := kp.wf hw
  have hxl := live_lt hw4 (live_of hx)
  have hn4 := kp.le
  by_cases hjr : i < g.vars.length
  · have a1 : ∀ o, hset H4 n4 o x = _ := fun o => (hset_ne _ _ _ (by omega)).trans hx
    have a2 : [x].contains n4 = false := by simp; omega
    have a3 : (hs.map Value.bool).take g.vars.length = hs.map Value.bool := List.take_of_length_le (by rw [List.length_map]; omega)
    have a4 : g.vars.length ≤ (hs.map Value.bool).length := by rw [List.length_map]; omega
    repeat (first | apply WK.seq | apply WK.block | apply WK.skipSeq | apply WK.skipBlock | apply WK.retSeq | apply WK.retBlock | apply WK.exitSeq | apply WK.exitHere | refine WK.exitOn rfl ?_ | ((first | (refine WK.rgn ?_ ?_; kernel_rfl) | refine AtCall.now ?_); simp (config := { maxSteps := 1000000 }) only [SS, forall_const, wx, tguard, acallee, top, tval, fput, tor, vsh, vbin, tload, tload2, tload3, tstore, tstore2, tstore3, Go.AM.splice, one, tidx, tidx2, tidx3, tfa, tfa2, tlen2, tlen3, tbox, tmake, tbs, tbs2, afill, tap, tap2, tap3, tap4, tsrc, tsrc2, Int.reduceEq, Int.reduceNeg, Nat.reduceGT, Nat.reduceLT, Nat.reduceLeDiff, Nat.reduceEqDiff, ↓reduceIte, reduceCtorEq, Int.reduceToNat, Int.reduceLE, Int.reduceLT, Nat.reduceAdd, Nat.reduceMul, f2, f5, f6, hb4, gc_1, hjr, ebs_114_0, a1, a2, a3, a4, hvl', List.drop_zero, List.take_zero, ff_84]) | (refine WK.condT ?_ ?_; focus (simp only [ev_tmp, ev_const, fset_apply, Nat.reduceEqDiff, ↓reduceIte, decide_true, decide_false, f2, f5, f6, hb4, gc_1, hjr, ebs_114_0, a1, a2, a3, a4, hvl', List.drop_zero, List.take_zero, ff_84]; done)) | (refine WK.condF ?_ ?_; focus (simp only [ev_tmp, ev_const, fset_apply, Nat.reduceEqDiff, ↓reduceIte, decide_true, decide_false, f2, f5, f6, hb4, gc_1, hjr, ebs_114_0, a1, a2, a3, a4, hvl', List.drop_zero, List.take_zero, ff_84]; done)))
    have kp1 := ((kp.trans (Kp.new n4 H4 .dead)).trans (Kp.new (n4 + 1) _ (.cells (hs.map .bool) 4 true)))
    have c0 := (hset_ne (hset H4 n4 .dead) (n4 + 1) (.cells (hs.map .bool) 4 true) (x := n) (by omega)).trans ((hset_ne H4 n4 .dead (by omega)).trans hb4)
    have c1 := (hset_ne (hset H4 n4 .dead) (n4 + 1) (.cells (hs.map .bool) 4 true) (x := x) (by omega)).trans ((hset_ne H4 n4 .dead (by omega)).trans hx)
    have c2 := hset_at (hset H4 n4 .dead) (n4 + 1) (.cells (hs.map .bool) 4 true)
    generalize hset (hset H4 n4 .dead) (n4 + 1) (.cells (hs.map .bool) 4 true) = H5 at *
    refine WK.loop (fun k s => ∃ (j : Nat) (nx : List Bool), Kp n H s.n s.H ∧ n4 + 1 < s.n ∧ s.f 1 = .bool nn ∧ s.f 2 = .pointer (some ⟨n, 0, none⟩) ∧ s.H n = .cells (gcells pt pv pr g) 25 true ∧ s.f 5 = .slice (some ⟨x, 0, none⟩) g.vars.length g.vars.length ∧ s.H x = .cells (hs.map .bool) 4 true ∧
        s.f 7 = .slice (some ⟨n4 + 1, 0, none⟩) g.vars.length g.vars.length ∧ s.H (n4 + 1) = .cells (nx.map .bool) 4 true ∧ s.f 6 = .int .i64 (i : Nat) ∧ s.f 8 = .int .i64 (j : Nat) ∧ j ≤ g.rules.length ∧ RoundTo (fun r => allB nn r.right) g.rules j hs nx ∧ k = g.rules.length - j) g.rules.length ?_ ?_
    · exact ⟨0, hs, kp1, Nat.lt_succ_self _, f1, f2, c0, f5, c1, rfl, c2, f6, rfl, Nat.zero_le _, .start _ _ _, rfl⟩
    clear c0 c1 c2 kp1 f1 f2 f5 f6 hb4 hx a1 a2 a3 a4 kp
    rintro kk' ⟨f, n6, H6⟩ ⟨j, nx, kp, hn6, f1, f2, hb6, f5, hx, f7, hnx, f6, f8, hj, hrt, rfl⟩ ih2
    simp only at f1 f2 hb6 f5 f6 f7 f8 ih2 kp hx hnx hn6
    have hw6 := kp.wf hw
    have hxl6 := live_lt hw6 (live_of hx)
    by_cases hjl : j < g.rules.length
    · have hjw : IntKind.i64.wrap ((j : Int) + 1) = ((j + 1 : Nat) : Int) := by rw [wrap_in (by omega) (by omega)]; rfl
      have hr6 := hr.mono hw kp
      obtain ⟨z, kz, cs, ty, own, p, e0, hz, d0, d1, d2, hp⟩ := hr6.at hjl
      have d3 := take3 d0 d1 d2
      have d4 := len3 d2
      subst e0
      obtain ⟨l, hl'⟩ : ∃ l : Nat, g.rules[j].left = l := ⟨g.rules[j].left.toNat, by have := (ok.rule j hjl).left0; omega⟩
      have hlv : l < g.vars.length := by have := (ok.rule j hjl).left1; omega
      have hm := List.getElem_mem hjl
      repeat (first | apply WK.seq | apply WK.block | apply WK.skipSeq | apply WK.skipBlock | apply WK.retSeq | apply WK.retBlock | apply WK.exitSeq | apply WK.exitHere | refine WK.exitOn rfl ?_ | ((first | (refine WK.rgn ?_ ?_; kernel_rfl) | refine AtCall.now ?_); simp (config := { maxSteps := 1000000 }) only [SS, forall_const, wx, tguard, acallee, top, tval, fput, tor, vsh, vbin, tload, tload2, tload3, tstore, tstore2, tstore3, Go.AM.splice, one, tidx, tidx2, tidx3, tfa, tfa2, tlen2, tlen3, tbox, tmake, tbs, tbs2, afill, tap, tap2, tap3, tap4, tsrc, tsrc2, Int.reduceEq, Int.reduceNeg, Nat.reduceGT, Nat.reduceLT, Nat.reduceLeDiff, Nat.reduceEqDiff, ↓reduceIte, reduceCtorEq, Int.reduceToNat, Int.reduceLE, Int.reduceLT, Nat.reduceAdd, Nat.reduceMul, f1, f2, f5, f8, hb6, gc_2, hjl, hz, d3, d4, ff_84]) | (refine WK.condT ?_ ?_; focus (simp only [ev_tmp, ev_const, fset_apply, Nat.reduceEqDiff, ↓reduceIte, decide_true, decide_false, f1, f2, f5, f8, hb6, gc_2, hjl, hz, d3, d4, ff_84]; done)) | (refine WK.condF ?_ ?_; focus (simp only [ev_tmp, ev_const, fset_apply, Nat.reduceEqDiff, ↓reduceIte, decide_true, decide_false, f1, f2, f5, f8, hb6, gc_2, hjl, hz, d3, d4, ff_84]; done)))
      have hall := all_gives (l := g.rules[j].left) (wt := g.rules[j].weight) (nn := nn) hw6 hp hx (wg.right _ hm).1 (fun s hs => by rw [hhl]; exact hi.right _ hm s hs)
      rw [hhl] at hall
      refine AtCall.by hall ?_
      rintro v n7 H7 k7 rfl
      have kp7 := kp.trans k7
      have e1 := (k7.keep n (by omega)).trans hb6
      have e2 := (k7.keep x hxl6).trans hx
      have e3 := (k7.keep (n4 + 1) (by omega)).trans hnx
      have e4 := (k7.keep z (live_lt hw6 (live_of hz))).trans hz
      have hn7 := k7.le
      cases hb7 : allB nn g.rules[j].right hs
      · simp (config := { maxSteps := 1000000 }) only [SS, forall_const, wx, tguard, acallee, top, tval, fput, tor, vsh, vbin, tload, tload2, tload3, tstore, tstore2, tstore3, Go.AM.splice, one, tidx, tidx2, tidx3, tfa, tfa2, tlen2, tlen3, tbox, tmake, tbs, tbs2, afill, tap, tap2, tap3, tap4, tsrc, tsrc2, Int.reduceEq, Int.reduceNeg, Nat.reduceGT, Nat.reduceLT, Nat.reduceLeDiff, Nat.reduceEqDiff, ↓reduceIte, reduceCtorEq, Int.reduceToNat, Int.reduceLE, Int.reduceLT, Nat.reduceAdd, Nat.reduceMul, ff_84]
        repeat (first | apply WK.seq | apply WK.block | apply WK.skipSeq | apply WK.skipBlock | apply WK.retSeq | apply WK.retBlock | apply WK.exitSeq | apply WK.exitHere | refine WK.exitOn rfl ?_ | ((first | (refine WK.rgn ?_ ?_; kernel_rfl) | refine AtCall.now ?_); simp (config := { maxSteps := 1000000 }) only [SS, forall_const, wx, tguard, acallee, top, tval, fput, tor, vsh, vbin, tload, tload2, tload3, tstore, tstore2, tstore3, Go.AM.splice, one, tidx, tidx2, tidx3, tfa, tfa2, tlen2, tlen3, tbox, tmake, tbs, tbs2, afill, tap, tap2, tap3, tap4, tsrc, tsrc2, Int.reduceEq, Int.reduceNeg, Nat.reduceGT, Nat.reduceLT, Nat.reduceLeDiff, Nat.reduceEqDiff, ↓reduceIte, reduceCtorEq, Int.reduceToNat, Int.reduceLE, Int.reduceLT, Nat.reduceAdd, Nat.reduceMul, f8, ff_84]) | (refine WK.condT ?_ ?_; focus (simp only [ev_tmp, ev_const, fset_apply, Nat.reduceEqDiff, ↓reduceIte, decide_true, decide_false, f8, ff_84]; done)) | (refine WK.condF ?_ ?_; focus (simp only [ev_tmp, ev_const, fset_apply, Nat.reduceEqDiff, ↓reduceIte, decide_true, decide_false, f8, ff_84]; done)))
        refine ih2 (g.rules.length - (j + 1)) (by omega) _ ⟨j + 1, nx, kp7, by show n4 + 1 < n7; omega, f1, f2, e1, f5, e2, f7, e3, f6, ?_, hjl, hrt.skip hjl hb7, rfl⟩
        simp only [packed, fset_apply, Nat.reduceEqDiff, ↓reduceIte, List.getD_cons_zero, List.getD_cons_succ, f8, hjw, ff_84]
      · simp (config := { maxSteps := 1000000 }) only [SS, forall_const, wx, tguard, acallee, top, tval, fput, tor, vsh, vbin, tload, tload2, tload3, tstore, tstore2, tstore3, Go.AM.splice, one, tidx, tidx2, tidx3, tfa, tfa2, tlen2, tlen3, tbox, tmake, tbs, tbs2, afill, tap, tap2, tap3, tap4, tsrc, tsrc2, Int.reduceEq, Int.reduceNeg, Nat.reduceGT, Nat.reduceLT, Nat.reduceLeDiff, Nat.reduceEqDiff, ↓reduceIte, reduceCtorEq, Int.reduceToNat, Int.reduceLE, Int.reduceLT, Nat.reduceAdd, Nat.reduceMul, ff_84]
        have hnl : nx.length = g.vars.length := by rw [hrt.len]; exact hhl
        have hlv' : l + 1 ≤ nx.length := by omega
        have hset' : (nx.map Value.bool).set l (.bool true) = (nx.set l true).map .bool := by rw [List.map_set]
        repeat (first | apply WK.seq | apply WK.block | apply WK.skipSeq | apply WK.skipBlock | apply WK.retSeq | apply WK.retBlock | apply WK.exitSeq | apply WK.exitHere | refine WK.exitOn rfl ?_ | ((first | (refine WK.rgn ?_ ?_; kernel_rfl) | refine AtCall.now ?_); simp (config := { maxSteps := 1000000 }) only [SS, forall_const, wx, tguard, acallee, top, tval, fput, tor, vsh, vbin, tload, tload2, tload3, tstore, tstore2, tstore3, Go.AM.splice, one, tidx, tidx2, tidx3, tfa, tfa2, tlen2, tlen3, tbox, tmake, tbs, tbs2, afill, tap, tap2, tap3, tap4, tsrc, tsrc2, Int.reduceEq, Int.reduceNeg, Nat.reduceGT, Nat.reduceLT, Nat.reduceLeDiff, Nat.reduceEqDiff, ↓reduceIte, reduceCtorEq, Int.reduceToNat, Int.reduceLE, Int.reduceLT, Nat.reduceAdd, Nat.reduceMul, f2, f7, f8, e1, e3, e4, gc_2, hjl, d0, hl', hlv, hlv', hset', List.length_map, ff_84]) | (refine WK.condT ?_ ?_; focus (simp only [ev_tmp, ev_const, fset_apply, Nat.reduceEqDiff, ↓reduceIte, decide_true, decide_false, f2, f7, f8, e1, e3, e4, gc_2, hjl, d0, hl', hlv, hlv', hset', List.length_map, ff_84]; done)) | (refine WK.condF ?_ ?_; focus (simp only [ev_tmp, ev_const, fset_apply, Nat.reduceEqDiff, ↓reduceIte, decide_true, decide_false, f2, f7, f8, e1, e3, e4, gc_2, hjl, d0, hl', hlv, hlv', hset', List.length_map, ff_84]; done)))
        have hne : n4 + 1 ≠ x := by omega
        refine ih2 (g.rules.length - (j + 1)) (by omega) _ ⟨j + 1, nx.set l true, kp7.set _ (by omega) (by omega), by show n4 + 1 < n7; omega, f1, f2, (hset_ne _ _ _ (by omega)).trans e1, f5, (hset_ne _ _ _ (Ne.symm hne)).trans e2, f7, hset_at _ _ _, f6, ?_, hjl, hrt.take hjl hl' (by omega) hb7, rfl⟩
        simp only [packed, fset_apply, Nat.reduceEqDiff, ↓reduceIte, List.getD_cons_zero, List.getD_cons_succ, f8, hjw, ff_84]
    · have hje : j = g.rules.length := by omega
      subst hje
      repeat (first | apply WK.seq | apply WK.block | apply WK.skipSeq | apply WK.skipBlock | apply WK.retSeq | apply WK.retBlock | apply WK.exitSeq | apply WK.exitHere | refine WK.exitOn rfl ?_ | ((first | (refine WK.rgn ?_ ?_; kernel_rfl) | refine AtCall.now ?_); simp (config := { maxSteps := 1000000 }) only [SS, forall_const, wx, tguard, acallee, top, tval, fput, tor, vsh, vbin, tload, tload2, tload3, tstore, tstore2, tstore3, Go.AM.splice, one, tidx, tidx2, tidx3, tfa, tfa2, tlen2, tlen3, tbox, tmake, tbs, tbs2, afill, tap, tap2, tap3, tap4, tsrc, tsrc2, Int.reduceEq, Int.reduceNeg, Nat.reduceGT, Nat.reduceLT, Nat.reduceLeDiff, Nat.reduceEqDiff, ↓reduceIte, reduceCtorEq, Int.reduceToNat, Int.reduceLE, Int.reduceLT, Nat.reduceAdd, Nat.reduceMul, f2, f6, f7, f8, hb6, gc_2, hjl, ff_84]) | (refine WK.condT ?_ ?_; focus (simp only [ev_tmp, ev_const, fset_apply, Nat.reduceEqDiff, ↓reduceIte, decide_true, decide_false, f2, f6, f7, f8, hb6, gc_2, hjl, ff_84]; done)) | (refine WK.condF ?_ ?_; focus (simp only [ev_tmp, ev_const, fset_apply, Nat.reduceEqDiff, ↓reduceIte, decide_true, decide_false, f2, f6, f7, f8, hb6, gc_2, hjl, ff_84]; done)))
      have hle := fun r (hr : r ∈ g.rules) => (⟨hi.left0 r hr, by rw [hhl]; exact hi.left1 r hr⟩ : 0 ≤ r.left ∧ r.left < hs.length)
      refine ih (g.vars.length - (i + 1)) (by omega) _ ⟨i + 1, n4 + 1, nx, kp, f1, f2, hb6, rfl, hnx, by omega, by rw [hrt.len]; exact hhl, ?_, hjr, fun v h => ?_, hrt.next hle hprog, rfl⟩
      · simp only [packed, fset_apply, Nat.reduceEqDiff, ↓reduceIte, List.getD_cons_zero, List.getD_cons_succ, ff_84]
        rw [wrap_in (by omega) (by omega)]; rfl
      · obtain ⟨h0, h⟩ := h
        obtain ⟨q, rfl⟩ : ∃ q : Nat, v = q := ⟨v.toNat, by omega⟩
        have hq : q < hs.length := by
          apply Classical.byContradiction
          intro hc
          have e : nx[q]? = none := List.getElem?_eq_none (by rw [hrt.len]; omega)
          rw [List.getD_eq_getElem?_getD] at h
          simp [e] at h
        rcases (hrt.mem q hq).1 (by simpa using h) with h | ⟨r, hr, _, e1, e2⟩
        · exact hsound q ⟨h0, by simpa using h⟩
        · rw [← e1]
          cases nn
          · exact .mk r hr fun s hs' h0 => hsound s (prdB_hold.1 e2 s hs' h0)
          · exact .mk r hr (fun s hs' => (nulB_hold.1 e2 s hs').1) fun s hs' => hsound s (nulB_hold.1 e2 s hs')
  · repeat (first | apply WK.seq | apply WK.block | apply WK.skipSeq | apply WK.skipBlock | apply WK.retSeq | apply WK.retBlock | apply WK.exitSeq | apply WK.exitHere | refine WK.exitOn rfl ?_ | ((first | (refine WK.rgn ?_ ?_; kernel_rfl) | refine AtCall.now ?_); simp (config := { maxSteps := 1000000 }) only [SS, forall_const, wx, tguard, acallee, top, tval, fput, tor, vsh, vbin, tload, tload2, tload3, tstore, tstore2, tstore3, Go.AM.splice, one, tidx, tidx2, tidx3, tfa, tfa2, tlen2, tlen3, tbox, tmake, tbs, tbs2, afill, tap, tap2, tap3, tap4, tsrc, tsrc2, Int.reduceEq, Int.reduceNeg, Nat.reduceGT, Nat.reduceLT, Nat.reduceLeDiff, Nat.reduceEqDiff, ↓reduceIte, reduceCtorEq, Int.reduceToNat, Int.reduceLE, Int.reduceLT, Nat.reduceAdd, Nat.reduceMul, f2, f5, f6, hb4, gc_1, hjr, ff_84]) | (refine WK.condT ?_ ?_; focus (simp only [ev_tmp, ev_const, fset_apply, Nat.reduceEqDiff, ↓reduceIte, decide_true, decide_false, f2, f5, f6, hb4, gc_1, hjr, ff_84]; done)) | (refine WK.condF ?_ ?_; focus (simp only [ev_tmp, ev_const, fset_apply, Nat.reduceEqDiff, ↓reduceIte, decide_true, decide_false, f2, f5, f6, hb4, gc_1, hjr, ff_84]; done)))
    (first | refine WK.retNil ⟨Or.inr rfl, _, rfl, ?_, ?_⟩ | refine WK.skipNil ⟨Or.inl rfl, _, rfl, ?_, ?_⟩)
    · exact kp.keep
    · simp only [packed, fset_apply, Nat.reduceEqDiff, ↓reduceIte, List.getD_cons_zero, List.getD_cons_succ, f5, ff_84]
      have hcl := closed_full (hs := hs) (fun r hr => ⟨hi.left0 r hr, by rw [hhl]; exact hi.left1 r hr⟩) (hprog.imp id fun h => by omega)
      refine ⟨hs, x, by omega, rfl, hhl, hx, fun v => ⟨hsound v, ?_⟩⟩
      cases nn
      · exact closed_prd hi hcl v
      · exact closed_nul hi hcl v
end Go.Proofs.Ytfbdababcdfjfaa
