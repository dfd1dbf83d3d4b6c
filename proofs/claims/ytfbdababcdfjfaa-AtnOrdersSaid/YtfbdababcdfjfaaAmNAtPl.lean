/- A part of a proof. Its conditions: none. -/
import Derived.Test.YtfbdababcdfjfaaAmNAtNew
set_option linter.all false
namespace Go.Proofs.Ytfbdababcdfjfaa
open Go.AM
set_option maxRecDepth 100000
def startL (g : Gram) (v : Int) : List CA := if 0 ≤ v ∧ v < g.vars.length then (ruleIx g v).map fun r => (⟨(r : Nat), (r : Nat), 0, []⟩, none) else []
set_option maxHeartbeats 16000000 in
theorem start_gives {nn n cc : Nat} {H : Heap} {v : Int} {pt pv pr : Option Addr} {g : Gram} {cl : List (Option Addr × List (Int × Int))} (hw : WF n H) (ne : NE H nn pt pv pr g cc cl) (ok : RightOK g) :
    Gives Try.prog 10 [.pointer (some ⟨nn, 0, none⟩), .int .i64 v] n H fun w _ H' => ∃ p, w = .slice p (startL g v).length (startL g v).length ∧ RN 4 ccell H' p (startL g v) := by
  refine Gives.of orders ok10 (Nat.le_of_ble_eq_true rfl) ?_
  have hnet := ne.net
  by_cases hv : 0 ≤ v ∧ v < g.vars.length
  · have hv0 : (v < 0) = False := eq_false (by omega)
    have hv1 : ((g.vars.length : Int) ≤ v) = False := eq_false (by omega)
    have hg3 : RG H (.agg (gcells pt pv pr g).toArray) g := ⟨_, _, _, rfl, ne.tms, ne.vrs, ne.rls⟩
    have v13 : ∀ a b c d : Value, ([a, b, c, d].drop 0).take 3 = [a, b, c] := fun _ _ _ _ => rfl
    have hgc : Value.agg (gcells pt pv pr g).toArray = .agg #[.slice pt g.terms.length g.terms.length, .slice pv g.vars.length g.vars.length, .slice pr g.rules.length g.rules.length] := rfl
    have hrg2 := rules_gives (v := v) hw hg3 ok
    rw [hgc] at hrg2
    repeat (first | apply WK.seq | apply WK.block | apply WK.skipSeq | apply WK.skipBlock | apply WK.retSeq | apply WK.retBlock | apply WK.exitSeq | apply WK.exitHere | refine WK.exitOn rfl ?_ | ((first | (refine WK.rgn ?_ ?_; kernel_rfl) | refine AtCall.now ?_); simp (config := { maxSteps := 1000000 }) only [SS, forall_const, wx, tguard, acallee, top, tval, fput, tor, vsh, vbin, tload, tload2, tload3, tfa, tfa2, tlen2, tlen3, tpick, textr, tbuild, afill, Go.AM.splice, one, tbs, tbs2, tap, tap2, tap3, tap4, tsrc, tsrc2, Int.reduceEq, Int.reduceNeg, Nat.reduceGT, Nat.reduceLT, Nat.reduceLeDiff, Nat.reduceEqDiff, ↓reduceIte, reduceCtorEq, Int.reduceToNat, Int.reduceLE, Int.reduceLT, Nat.reduceAdd, Nat.reduceMul, hnet, hv0, hv1, v13, aop_nc, tnc, decide_false, ff_10]) | (refine WK.condT ?_ ?_; focus (simp only [ev_tmp, ev_const, fset_apply, Nat.reduceEqDiff, ↓reduceIte, decide_true, decide_false, hnet, hv0, hv1, v13, aop_nc, tnc, decide_false, ff_10]; done)) | (refine WK.condF ?_ ?_; focus (simp only [ev_tmp, ev_const, fset_apply, Nat.reduceEqDiff, ↓reduceIte, decide_true, decide_false, hnet, hv0, hv1, v13, aop_nc, tnc, decide_false, ff_10]; done)))
    refine AtCall.by hrg2 ?_
    rintro w n1 H1 k1 ⟨a, b, rfl, hab, hbl, hix⟩
    have hrules := ok.rules
    have hsl : startL g v = (List.range' a (b - a)).map fun r => (⟨(r : Nat), (r : Nat), 0, []⟩, none) := by unfold startL; rw [if_pos hv, ruleIx_eq hab hbl hix]
    rw [hsl]
    simp (config := { maxSteps := 1000000 }) only [SS, forall_const, wx, tguard, acallee, top, tval, fput, tor, vsh, vbin, tload, tload2, tload3, tfa, tfa2, tlen2, tlen3, tpick, textr, tbuild, afill, Go.AM.splice, one, tbs, tbs2, tap, tap2, tap3, tap4, tsrc, tsrc2, Int.reduceEq, Int.reduceNeg, Nat.reduceGT, Nat.reduceLT, Nat.reduceLeDiff, Nat.reduceEqDiff, ↓reduceIte, reduceCtorEq, Int.reduceToNat, Int.reduceLE, Int.reduceLT, Nat.reduceAdd, Nat.reduceMul, List.toList_toArray, ff_10]
    repeat (first | apply WK.seq | apply WK.block | apply WK.skipSeq | apply WK.skipBlock | apply WK.retSeq | apply WK.retBlock | apply WK.exitSeq | apply WK.exitHere | refine WK.exitOn rfl ?_ | ((first | (refine WK.rgn ?_ ?_; kernel_rfl) | refine AtCall.now ?_); simp (config := { maxSteps := 1000000 }) only [SS, forall_const, wx, tguard, acallee, top, tval, fput, tor, vsh, vbin, tload, tload2, tload3, tfa, tfa2, tlen2, tlen3, tpick, textr, tbuild, afill, Go.AM.splice, one, tbs, tbs2, tap, tap2, tap3, tap4, tsrc, tsrc2, Int.reduceEq, Int.reduceNeg, Nat.reduceGT, Nat.reduceLT, Nat.reduceLeDiff, Nat.reduceEqDiff, ↓reduceIte, reduceCtorEq, Int.reduceToNat, Int.reduceLE, Int.reduceLT, Nat.reduceAdd, Nat.reduceMul, ff_10]) | (refine WK.condT ?_ ?_; focus (simp only [ev_tmp, ev_const, fset_apply, Nat.reduceEqDiff, ↓reduceIte, decide_true, decide_false, ff_10]; done)) | (refine WK.condF ?_ ?_; focus (simp only [ev_tmp, ev_const, fset_apply, Nat.reduceEqDiff, ↓reduceIte, decide_true, decide_false, ff_10]; done)))
    refine WK.loop (fun kk s => ∃ (i y : Nat), Kp n H s.n s.H ∧ s.f 6 = .int .i64 (b : Nat) ∧ s.f 8 = .int .i64 (i : Nat) ∧ a ≤ i ∧ i ≤ b ∧ s.f 7 = sl y (i - a) ∧ (i ≠ a → n ≤ y ∧ y < s.n ∧ s.H y = .cells (((List.range' a (i - a)).map fun r : Nat => ((⟨(r : Nat), (r : Nat), 0, []⟩, none) : CA)).flatMap ccell) 47 true) ∧ kk = b - i) (b - a) ?_ ?_
    · exact ⟨a, 0, k1, rfl, rfl, Nat.le_refl _, hab, by rw [Nat.sub_self]; rfl, fun h => absurd rfl h, rfl⟩
    rintro kk ⟨f, n2, H2⟩ ⟨i, y, k2, f6, f8, hai, hib, f7, hy, rfl⟩ ih
    simp only at k2 f6 f8 f7 hy ih
    have hw2 := k2.wf hw
    have hle2 := k2.le
    by_cases hlt : i < b
    · have hiw : IntKind.i64.wrap ((i : Int) + 1) = ((i + 1 : Nat) : Int) := by rw [wrap_in (by omega) (by omega)]; rfl
      have hran : List.range' a (i + 1 - a) = List.range' a (i - a) ++ [i] := by
        rw [show i + 1 - a = (i - a) + 1 by omega, List.range'_concat]
        simp; omega
      have hfl : ((List.range' a (i + 1 - a)).map fun r : Nat => ((⟨(r : Nat), (r : Nat), 0, []⟩, none) : CA)).flatMap ccell = ((List.range' a (i - a)).map fun r : Nat => ((⟨(r : Nat), (r : Nat), 0, []⟩, none) : CA)).flatMap ccell ++ [.int .i64 (i : Nat), .int .i64 (i : Nat), .int .i64 (0 : Int), .slice none 0 0] := by
        rw [hran, List.map_append, List.flatMap_append]; rfl
      have hsl1 : ∀ y, sl y (i + 1 - a) = .slice (some ⟨y, 0, none⟩) ((i - a : Nat) + 1) ((i - a : Nat) + 1) := fun y => by rw [sl_pos (by omega), show i + 1 - a = (i - a) + 1 by omega]
      by_cases hia : i = a
      · subst hia
        rw [Nat.sub_self, sl_zero] at f7
        repeat (first | apply WK.seq | apply WK.block | apply WK.skipSeq | apply WK.skipBlock | apply WK.retSeq | apply WK.retBlock | apply WK.exitSeq | apply WK.exitHere | refine WK.exitOn rfl ?_ | ((first | (refine WK.rgn ?_ ?_; kernel_rfl) | refine AtCall.now ?_); simp (config := { maxSteps := 1000000 }) only [SS, forall_const, wx, tguard, acallee, top, tval, fput, tor, vsh, vbin, tload, tload2, tload3, tfa, tfa2, tlen2, tlen3, tpick, textr, tbuild, afill, Go.AM.splice, one, tbs, tbs2, tap, tap2, tap3, tap4, tsrc, tsrc2, Int.reduceEq, Int.reduceNeg, Nat.reduceGT, Nat.reduceLT, Nat.reduceLeDiff, Nat.reduceEqDiff, ↓reduceIte, reduceCtorEq, Int.reduceToNat, Int.reduceLE, Int.reduceLT, Nat.reduceAdd, Nat.reduceMul, f6, f7, f8, hlt, hiw, ff_10]) | (refine WK.condT ?_ ?_; focus (simp only [ev_tmp, ev_const, fset_apply, Nat.reduceEqDiff, ↓reduceIte, decide_true, decide_false, f6, f7, f8, hlt, hiw, ff_10]; done)) | (refine WK.condF ?_ ?_; focus (simp only [ev_tmp, ev_const, fset_apply, Nat.reduceEqDiff, ↓reduceIte, decide_true, decide_false, f6, f7, f8, hlt, hiw, ff_10]; done)))
        refine ih (b - (i + 1)) (by omega) _ ⟨i + 1, n2 + 1, (k2.trans (Kp.new n2 _ _)).trans (Kp.new (n2 + 1) _ _), f6, rfl, by omega, hlt, ?_, fun _ => ⟨by omega, Nat.lt_succ_self _, ?_⟩, rfl⟩
        · show Value.slice (some ⟨n2 + 1, 0, none⟩) 1 1 = _
          rw [hsl1, Nat.sub_self]
        · rw [hfl, Nat.sub_self]
          exact hset_at _ _ _
      · obtain ⟨hy1, hy2, hy3⟩ := hy hia
        rw [sl_pos (by omega)] at f7
        generalize hE : (((List.range' a (i - a)).map fun r : Nat => ((⟨(r : Nat), (r : Nat), 0, []⟩, none) : CA)).flatMap ccell) = E at *
        have hEl : E.length = (i - a) * 4 := by rw [← hE, fm_len ccell_len]; simp
        have hEt : E.take ((i - a) * 4) = E := List.take_of_length_le (by omega)
        have hct : [n2].contains y = false := by simp; omega
        have bl : i - a + 1 ≤ bigN := by unfold bigN; omega
        have hy6 : ∀ o, hset H2 n2 o y = _ := fun o => (hset_ne _ _ _ (by omega)).trans hy3
        have v4 : ∀ a b c d : Value, ([a, b, c, d].drop 0).take 4 = [a, b, c, d] := fun _ _ _ _ => rfl
        repeat (first | apply WK.seq | apply WK.block | apply WK.skipSeq | apply WK.skipBlock | apply WK.retSeq | apply WK.retBlock | apply WK.exitSeq | apply WK.exitHere | refine WK.exitOn rfl ?_ | ((first | (refine WK.rgn ?_ ?_; kernel_rfl) | refine AtCall.now ?_); simp (config := { maxSteps := 1000000 }) only [SS, forall_const, wx, tguard, acallee, top, tval, fput, tor, vsh, vbin, tload, tload2, tload3, tfa, tfa2, tlen2, tlen3, tpick, textr, tbuild, afill, Go.AM.splice, one, tbs, tbs2, tap, tap2, tap3, tap4, tsrc, tsrc2, Int.reduceEq, Int.reduceNeg, Nat.reduceGT, Nat.reduceLT, Nat.reduceLeDiff, Nat.reduceEqDiff, ↓reduceIte, reduceCtorEq, Int.reduceToNat, Int.reduceLE, Int.reduceLT, Nat.reduceAdd, Nat.reduceMul, f6, f7, f8, hlt, hiw, hy3, hy6, hEl, hEt, hct, bl, v4, Nat.le_refl, List.drop_zero, hset_at, ff_10]) | (refine WK.condT ?_ ?_; focus (simp only [ev_tmp, ev_const, fset_apply, Nat.reduceEqDiff, ↓reduceIte, decide_true, decide_false, f6, f7, f8, hlt, hiw, hy3, hy6, hEl, hEt, hct, bl, v4, Nat.le_refl, List.drop_zero, hset_at, ff_10]; done)) | (refine WK.condF ?_ ?_; focus (simp only [ev_tmp, ev_const, fset_apply, Nat.reduceEqDiff, ↓reduceIte, decide_true, decide_false, f6, f7, f8, hlt, hiw, hy3, hy6, hEl, hEt, hct, bl, v4, Nat.le_refl, List.drop_zero, hset_at, ff_10]; done)))
        refine ih (b - (i + 1)) (by omega) _ ⟨i + 1, n2 + 1, ((k2.trans (Kp.new n2 _ _)).set (x := y) .dead hy1 (by omega)).trans (Kp.new (n2 + 1) _ _), f6, rfl, by omega, hlt, ?_, fun _ => ⟨by omega, Nat.lt_succ_self _, ?_⟩, rfl⟩
        · exact (hsl1 (n2 + 1)).symm
        · rw [hfl]
          exact hset_at _ _ _
    · obtain rfl : i = b := by omega
      rw [sl_eq] at f7
      repeat (first | apply WK.seq | apply WK.block | apply WK.skipSeq | apply WK.skipBlock | apply WK.retSeq | apply WK.retBlock | apply WK.exitSeq | apply WK.exitHere | refine WK.exitOn rfl ?_ | ((first | (refine WK.rgn ?_ ?_; kernel_rfl) | refine AtCall.now ?_); simp (config := { maxSteps := 1000000 }) only [SS, forall_const, wx, tguard, acallee, top, tval, fput, tor, vsh, vbin, tload, tload2, tload3, tfa, tfa2, tlen2, tlen3, tpick, textr, tbuild, afill, Go.AM.splice, one, tbs, tbs2, tap, tap2, tap3, tap4, tsrc, tsrc2, Int.reduceEq, Int.reduceNeg, Nat.reduceGT, Nat.reduceLT, Nat.reduceLeDiff, Nat.reduceEqDiff, ↓reduceIte, reduceCtorEq, Int.reduceToNat, Int.reduceLE, Int.reduceLT, Nat.reduceAdd, Nat.reduceMul, f6, f7, f8, hlt, Nat.lt_irrefl, Int.lt_irrefl, ff_10]) | (refine WK.condT ?_ ?_; focus (simp only [ev_tmp, ev_const, fset_apply, Nat.reduceEqDiff, ↓reduceIte, decide_true, decide_false, f6, f7, f8, hlt, Nat.lt_irrefl, Int.lt_irrefl, ff_10]; done)) | (refine WK.condF ?_ ?_; focus (simp only [ev_tmp, ev_const, fset_apply, Nat.reduceEqDiff, ↓reduceIte, decide_true, decide_false, f6, f7, f8, hlt, Nat.lt_irrefl, Int.lt_irrefl, ff_10]; done)))
      (first | refine WK.retNil ⟨Or.inr rfl, _, rfl, ?_, ?_⟩ | refine WK.skipNil ⟨Or.inl rfl, _, rfl, ?_, ?_⟩)
      · exact k2.keep
      · simp only [packed, fset_apply, Nat.reduceEqDiff, ↓reduceIte, List.getD_cons_zero, List.getD_cons_succ, ff_10]
        refine ⟨slp y (i - a), by simp, ?_⟩
        by_cases hia : i = a
        · subst hia
          rw [Nat.sub_self]
          exact .inl ⟨rfl, rfl⟩
        · obtain ⟨_, _, hy3⟩ := hy hia
          rw [slp_pos (by omega)]
          exact .inr ⟨y, 0, _, _, true, rfl, hy3, by rw [fm_len ccell_len]; simp, by rw [List.drop_zero]; exact List.take_of_length_le (by rw [fm_len ccell_len]; simp)⟩
  · have hsl : startL g v = [] := by unfold startL; rw [if_neg hv]
    rw [hsl]
    by_cases hv0 : v < 0
    · repeat (first | apply WK.seq | apply WK.block | apply WK.skipSeq | apply WK.skipBlock | apply WK.retSeq | apply WK.retBlock | apply WK.exitSeq | apply WK.exitHere | refine WK.exitOn rfl ?_ | ((first | (refine WK.rgn ?_ ?_; kernel_rfl) | refine AtCall.now ?_); simp (config := { maxSteps := 1000000 }) only [SS, forall_const, wx, tguard, acallee, top, tval, fput, tor, vsh, vbin, tload, tload2, tload3, tfa, tfa2, tlen2, tlen3, tpick, textr, tbuild, afill, Go.AM.splice, one, tbs, tbs2, tap, tap2, tap3, tap4, tsrc, tsrc2, Int.reduceEq, Int.reduceNeg, Nat.reduceGT, Nat.reduceLT, Nat.reduceLeDiff, Nat.reduceEqDiff, ↓reduceIte, reduceCtorEq, Int.reduceToNat, Int.reduceLE, Int.reduceLT, Nat.reduceAdd, Nat.reduceMul, hnet, hv0, aop_nc, tnc, decide_true, ff_10]) | (refine WK.condT ?_ ?_; focus (simp only [ev_tmp, ev_const, fset_apply, Nat.reduceEqDiff, ↓reduceIte, decide_true, decide_false, hnet, hv0, aop_nc, tnc, decide_true, ff_10]; done)) | (refine WK.condF ?_ ?_; focus (simp only [ev_tmp, ev_const, fset_apply, Nat.reduceEqDiff, ↓reduceIte, decide_true, decide_false, hnet, hv0, aop_nc, tnc, decide_true, ff_10]; done)))
      (first | refine WK.retNil ⟨Or.inr rfl, _, rfl, ?_, ?_⟩ | refine WK.skipNil ⟨Or.inl rfl, _, rfl, ?_, ?_⟩)
      · exact fun _ _ => rfl
      · simp only [packed, fset_apply, Nat.reduceEqDiff, ↓reduceIte, List.getD_cons_zero, List.getD_cons_succ, ff_10]
        exact ⟨none, rfl, .inl ⟨rfl, rfl⟩⟩
    · have hv1 : (g.vars.length : Int) ≤ v := by omega
      repeat (first | apply WK.seq | apply WK.block | apply WK.skipSeq | apply WK.skipBlock | apply WK.retSeq | apply WK.retBlock | apply WK.exitSeq | apply WK.exitHere | refine WK.exitOn rfl ?_ | ((first | (refine WK.rgn ?_ ?_; kernel_rfl) | refine AtCall.now ?_); simp (config := { maxSteps := 1000000 }) only [SS, forall_const, wx, tguard, acallee, top, tval, fput, tor, vsh, vbin, tload, tload2, tload3, tfa, tfa2, tlen2, tlen3, tpick, textr, tbuild, afill, Go.AM.splice, one, tbs, tbs2, tap, tap2, tap3, tap4, tsrc, tsrc2, Int.reduceEq, Int.reduceNeg, Nat.reduceGT, Nat.reduceLT, Nat.reduceLeDiff, Nat.reduceEqDiff, ↓reduceIte, reduceCtorEq, Int.reduceToNat, Int.reduceLE, Int.reduceLT, Nat.reduceAdd, Nat.reduceMul, hnet, hv0, hv1, aop_nc, tnc, decide_true, decide_false, ff_10]) | (refine WK.condT ?_ ?_; focus (simp only [ev_tmp, ev_const, fset_apply, Nat.reduceEqDiff, ↓reduceIte, decide_true, decide_false, hnet, hv0, hv1, aop_nc, tnc, decide_true, decide_false, ff_10]; done)) | (refine WK.condF ?_ ?_; focus (simp only [ev_tmp, ev_const, fset_apply, Nat.reduceEqDiff, ↓reduceIte, decide_true, decide_false, hnet, hv0, hv1, aop_nc, tnc, decide_true, decide_false, ff_10]; done)))
      (first | refine WK.retNil ⟨Or.inr rfl, _, rfl, ?_, ?_⟩ | refine WK.skipNil ⟨Or.inl rfl, _, rfl, ?_, ?_⟩)
      · exact fun _ _ => rfl
      · simp only [packed, fset_apply, Nat.reduceEqDiff, ↓reduceIte, List.getD_cons_zero, List.getD_cons_succ, ff_10]
        exact ⟨none, rfl, .inl ⟨rfl, rfl⟩⟩
end Go.Proofs.Ytfbdababcdfjfaa

namespace Go.Proofs.Ytfbdababcdfjfaa
open Go.AM
set_option maxRecDepth 100000
theorem load_pl {H : Heap} {x : Nat} {cs : List Value} {ty : TypeId} {own : Bool} (h : H x = .cells cs ty own) (hl : cs.length = 4) : (aload Try.prog 53 H (.pointer (some ⟨x, 0, none⟩))) = some { v := .agg cs.toArray, rd := [x] } := by
  have h1 : aggT Try.prog 53 = some true := by kernel_rfl
  have h2 : Try.prog.cellsOf 53 = 4 := by kernel_rfl
  unfold aload
  simp only [h, h1, h2]
  rw [if_pos (by omega), List.drop_zero, List.take_of_length_le (by omega)]
theorem res_pl {f : Fr} {n : Nat} {H : Heap} {x : Nat} {cs : List Value} {ty : TypeId} {own : Bool} (hf : f 2 = .pointer (some ⟨x, 0, none⟩)) (h : H x = .cells cs ty own) (hl : cs.length = 4) : aresultsL Try.prog ⟨f, n, H⟩ Try.f27.results.toList = some [.agg cs.toArray] := by
  have e : Try.f27.results.toList = [.cell 2 53] := rfl
  rw [e]
  unfold aresultsL aresult
  simp only [hf, load_pl h hl]
  rfl
set_option maxHeartbeats 16000000 in
theorem plain_gives {x : CA} {n : Nat} {H : Heap} (hw : WF n H) (hx : StOK H x) (hl : x.1.stack.length ≤ 65536) :
    Gives Try.prog 27 [.agg (ccell x).toArray] n H fun v _ H' => ∃ p, v = .agg (ccell (x.1, p)).toArray ∧ StOK H' (x.1, p) := by
  refine Gives.of orders ok27 (Nat.le_of_ble_eq_true rfl) ?_
  have v1 : ∀ s, vcells (.agg (ccell s).toArray) = ccell s := fun _ => rfl
  have v2 : ∀ s, (ccell s).all one = true := fun _ => rfl
  have v4 : ∀ s, (ccell s)[3]? = some (.slice s.2 s.1.stack.length s.1.stack.length) := fun _ => rfl
  have v0 : ∀ s, (ccell s)[0]? = some (.int .i64 s.1.alt) := fun _ => rfl
  have v5 : ∀ s, (ccell s).length = 4 := fun _ => rfl
  have v8 : ∀ s, ((ccell s).drop 1).take 2 = [.int .i64 s.1.rule, .int .i64 s.1.dot] := fun _ => rfl
  repeat (first | apply WK.seq | apply WK.block | apply WK.skipSeq | apply WK.skipBlock | apply WK.retSeq | apply WK.retBlock | apply WK.exitSeq | apply WK.exitHere | refine WK.exitOn rfl ?_)
  (refine WK.rgn ?_ ?_; kernel_rfl; simp (config := { maxSteps := 1000000 }) only [SS, forall_const, wx, tguard, acallee, top, tval, fput, tor, vsh, vbin, tload, tload2, tload3, tstore, tstore2, tstore3, Go.AM.splice, one, tidx, tidx2, tidx3, tfa, tfa2, tlen2, tlen3, tbox, talloc, still, still1, flat1, tbuild, afill, tbs, tbs2, tap, tap2, tap3, tap4, tsrc, tsrc2, Int.reduceEq, Int.reduceNeg, Nat.reduceGT, Nat.reduceLT, Nat.reduceLeDiff, Nat.reduceEqDiff, ↓reduceIte, reduceCtorEq, Int.reduceToNat, Int.reduceLE, Int.reduceLT, Nat.reduceAdd, Nat.reduceMul, abox, v1, v2, ff_27])
  have k1 := Kp.new n H (.cells (ccell x) 47 true)
  have hb := hset_at H n (.cells (ccell x) 47 true)
  generalize hset H n (.cells (ccell x) 47 true) = H1 at *
  have hw1 := k1.wf hw
  have hx1 := hx.mono hw k1
  have k2 := Kp.new (n + 1) H1 (.cells [.int .i64 (Int.ofNat 0), .int .i64 (Int.ofNat 0), .int .i64 (Int.ofNat 0), .slice none 0 0] 53 true)
  have hz := hset_at H1 (n + 1) (.cells [.int .i64 (Int.ofNat 0), .int .i64 (Int.ofNat 0), .int .i64 (Int.ofNat 0), .slice none 0 0] 53 true)
  generalize hset H1 (n + 1) (.cells [.int .i64 (Int.ofNat 0), .int .i64 (Int.ofNat 0), .int .i64 (Int.ofNat 0), .slice none 0 0] 53 true) = H2 at *
  have hb2 := (k2.keep n (by omega)).trans hb
  have hsp : ∀ a b c d e f g : Value, AM.splice [a, b, c, d] 1 [e, f] = [a, e, f, d] := fun _ _ _ _ _ _ _ => rfl
  have hs4 : ∀ a b c d e f g h : Value, AM.splice [a, b, c, d] 0 [e, f, g, h] = [e, f, g, h] := fun _ _ _ _ _ _ _ _ => rfl
  have hd4 : ∀ a b c d : Value, ([a, b, c, d].drop 0).take 4 = [a, b, c, d] := fun _ _ _ _ => rfl
  have hx4 : (ccell x)[3]? = some (.slice x.2 x.1.stack.length x.1.stack.length) := rfl
  have w0 : ∀ a b s, AM.splice [a, b] 0 (spC s) = spC s := fun _ _ _ => rfl
  have w1 : ∀ s, ((spC s).drop 0).take 2 = spC s := fun _ => rfl
  have w2 : ∀ s, vcells (.agg (spC s).toArray) = spC s := fun _ => rfl
  have w3 : ∀ s, (spC s).length = 2 := fun _ => rfl
  have w4 : ∀ s, (spC s).all one = true := fun _ => rfl
  have w5 : ∀ s, (spC s).take 2 = spC s := fun _ => rfl
  repeat (first | apply WK.seq | apply WK.block | apply WK.skipSeq | apply WK.skipBlock | apply WK.retSeq | apply WK.retBlock | apply WK.exitSeq | apply WK.exitHere | refine WK.exitOn rfl ?_)
  (refine WK.rgn ?_ ?_; kernel_rfl; simp (config := { maxSteps := 1000000 }) only [SS, forall_const, wx, tguard, acallee, top, tval, fput, tor, vsh, vbin, tload, tload2, tload3, tstore, tstore2, tstore3, Go.AM.splice, one, tidx, tidx2, tidx3, tfa, tfa2, tlen2, tlen3, tbox, talloc, still, still1, flat1, tbuild, afill, tbs, tbs2, tap, tap2, tap3, tap4, tsrc, tsrc2, Int.reduceEq, Int.reduceNeg, Nat.reduceGT, Nat.reduceLT, Nat.reduceLeDiff, Nat.reduceEqDiff, ↓reduceIte, reduceCtorEq, Int.reduceToNat, Int.reduceLE, Int.reduceLT, Nat.reduceAdd, Nat.reduceMul, hb2, v0, v5, v8, hsp, hs4, ff_27])
  have k3 := Kp.new (n + 1 + 1) H2 (.cells [.int .i64 x.1.alt, .int .i64 x.1.rule, .int .i64 x.1.dot, .slice none 0 0] 53 true)
  have hc := hset_at H2 (n + 1 + 1) (.cells [.int .i64 x.1.alt, .int .i64 x.1.rule, .int .i64 x.1.dot, .slice none 0 0] 53 true)
  generalize hset H2 (n + 1 + 1) (.cells [.int .i64 x.1.alt, .int .i64 x.1.rule, .int .i64 x.1.dot, .slice none 0 0] 53 true) = H3 at *
  have hb3 := (k3.keep n (by omega)).trans hb2
  have hz3 := (k3.keep (n + 1) (by omega)).trans hz
  have k13 := k1.trans (k2.trans k3)
  have hw3 := k13.wf hw
  have hx3 := hx.mono hw k13
  repeat (first | apply WK.seq | apply WK.block | apply WK.skipSeq | apply WK.skipBlock | apply WK.retSeq | apply WK.retBlock | apply WK.exitSeq | apply WK.exitHere | refine WK.exitOn rfl ?_ | ((first | (refine WK.rgn ?_ ?_; kernel_rfl) | refine AtCall.now ?_); simp (config := { maxSteps := 1000000 }) only [SS, forall_const, wx, tguard, acallee, top, tval, fput, tor, vsh, vbin, tload, tload2, tload3, tstore, tstore2, tstore3, Go.AM.splice, one, tidx, tidx2, tidx3, tfa, tfa2, tlen2, tlen3, tbox, talloc, still, still1, flat1, tbuild, afill, tbs, tbs2, tap, tap2, tap3, tap4, tsrc, tsrc2, Int.reduceEq, Int.reduceNeg, Nat.reduceGT, Nat.reduceLT, Nat.reduceLeDiff, Nat.reduceEqDiff, ↓reduceIte, reduceCtorEq, Int.reduceToNat, Int.reduceLE, Int.reduceLT, Nat.reduceAdd, Nat.reduceMul, hb3, hx4, v5, ff_27]) | (refine WK.condT ?_ ?_; focus (simp only [ev_tmp, ev_const, fset_apply, Nat.reduceEqDiff, ↓reduceIte, decide_true, decide_false, hb3, hx4, v5, ff_27]; done)) | (refine WK.condF ?_ ?_; focus (simp only [ev_tmp, ev_const, fset_apply, Nat.reduceEqDiff, ↓reduceIte, decide_true, decide_false, hb3, hx4, v5, ff_27]; done)))
  refine WK.loop (fun kk s => ∃ (i y : Nat), Kx (fun z => z = n + 2 ∨ n + 3 ≤ z) (n + 3) H3 s.n s.H ∧ s.H (n + 2) = .cells [.int .i64 x.1.alt, .int .i64 x.1.rule, .int .i64 x.1.dot, sl y i] 53 true ∧ (i ≠ 0 → n + 3 ≤ y ∧ y < s.n ∧ s.H y = .cells ((x.1.stack.take i).flatMap spC) 50 true) ∧
    s.f 2 = .pointer (some ⟨n + 1, 0, none⟩) ∧ s.f 3 = .pointer (some ⟨n + 2, 0, none⟩) ∧ s.f 12 = .slice x.2 x.1.stack.length x.1.stack.length ∧ s.f 13 = .int .i64 (x.1.stack.length : Nat) ∧ s.f 14 = .int .i64 (i : Nat) ∧ i ≤ x.1.stack.length ∧ kk = x.1.stack.length - i) x.1.stack.length ?_ ?_
  · exact ⟨0, 0, Kx.refl _ _ _, hc, fun h => absurd rfl h, rfl, rfl, rfl, rfl, rfl, Nat.zero_le _, rfl⟩
  rintro kk ⟨f, n4, H4⟩ ⟨i, y, k4, hc4, hy, f2, f3, f12, f13, f14, hil, rfl⟩ ih
  simp only at k4 hc4 hy f2 f3 f12 f13 f14 ih
  have hle4 := k4.le
  have k04 : Kp (n + 2) H3 n4 H4 := ⟨by omega, fun z hz => k4.keep z (by omega) (by omega), fun h => k4.wf fun z hz => h z (by omega)⟩
  by_cases hlt : i < x.1.stack.length
  · obtain ⟨u, k0, cs, ty, own, e1, e2, e3, e4⟩ := hx.at spC_len hlt
    have hu : u < n := live_lt hw (live_of e2)
    have e24 := (k04.keep u (by omega)).trans ((k13.keep u hu).trans e2)
    have hiw : IntKind.i64.wrap ((i : Int) + 1) = ((i + 1 : Nat) : Int) := by rw [wrap_in (by omega) (by omega)]; rfl
    have hfl : (x.1.stack.take (i + 1)).flatMap spC = (x.1.stack.take i).flatMap spC ++ spC x.1.stack[i] := by
      rw [List.take_add_one, List.flatMap_append, List.getElem?_eq_getElem hlt]; simp
    have hsl1 : ∀ y, sl y (i + 1) = .slice (some ⟨y, 0, none⟩) (i + 1) (i + 1) := fun y => sl_pos (by omega)
    by_cases hia : i = 0
    · subst hia
      rw [sl_zero] at hc4
      rw [Nat.zero_mul, Nat.add_zero] at e3 e4
      have hcy : ∀ o, hset H4 n4 o (n + 2) = _ := fun o => (hset_ne _ _ _ (by omega)).trans hc4
      have hcx : ∀ o o' o'', hset (hset (hset H4 n4 o) (n4 + 1) o') (n4 + 1 + 1) o'' (n + 2) = _ := fun o o' o'' => (hset_ne _ _ _ (by omega)).trans ((hset_ne _ _ _ (by omega)).trans ((hset_ne _ _ _ (by omega)).trans hc4))
      repeat (first | apply WK.seq | apply WK.block | apply WK.skipSeq | apply WK.skipBlock | apply WK.retSeq | apply WK.retBlock | apply WK.exitSeq | apply WK.exitHere | refine WK.exitOn rfl ?_ | ((first | (refine WK.rgn ?_ ?_; kernel_rfl) | refine AtCall.now ?_); simp (config := { maxSteps := 1000000 }) only [SS, forall_const, wx, tguard, acallee, top, tval, fput, tor, vsh, vbin, tload, tload2, tload3, tstore, tstore2, tstore3, Go.AM.splice, one, tidx, tidx2, tidx3, tfa, tfa2, tlen2, tlen3, tbox, talloc, still, still1, flat1, tbuild, afill, tbs, tbs2, tap, tap2, tap3, tap4, tsrc, tsrc2, Int.reduceEq, Int.reduceNeg, Nat.reduceGT, Nat.reduceLT, Nat.reduceLeDiff, Nat.reduceEqDiff, ↓reduceIte, reduceCtorEq, Int.reduceToNat, Int.reduceLE, Int.reduceLT, Nat.reduceAdd, Nat.reduceMul, f12, f13, f14, f3, hlt, hiw, e1, e24, e3, e4, w0, w1, w2, w3, w4, w5, hc4, hcx, hcy, hset_at, ff_27]) | (refine WK.condT ?_ ?_; focus (simp only [ev_tmp, ev_const, fset_apply, Nat.reduceEqDiff, ↓reduceIte, decide_true, decide_false, f12, f13, f14, f3, hlt, hiw, e1, e24, e3, e4, w0, w1, w2, w3, w4, w5, hc4, hcx, hcy, hset_at, ff_27]; done)) | (refine WK.condF ?_ ?_; focus (simp only [ev_tmp, ev_const, fset_apply, Nat.reduceEqDiff, ↓reduceIte, decide_true, decide_false, f12, f13, f14, f3, hlt, hiw, e1, e24, e3, e4, w0, w1, w2, w3, w4, w5, hc4, hcx, hcy, hset_at, ff_27]; done)))
      refine ih (x.1.stack.length - (0 + 1)) (by omega) _ ⟨0 + 1, n4 + 1 + 1, ((((k4.trans (Kp.new n4 _ _).kx).trans (Kp.new (n4 + 1) _ _).kx).trans (Kp.new (n4 + 1 + 1) _ _).kx).set (x := n + 2) _ (.inl (.inl rfl)) (by omega)), ?_, fun _ => ⟨by omega, Nat.lt_succ_self _, ?_⟩, f2, f3, f12, f13, rfl, hlt, rfl⟩
      · exact (hset_at _ _ _).trans (by rw [sl_pos (by omega)])
      · refine (hset_ne _ _ _ (by omega)).trans ((hset_at _ _ _).trans (by rw [hfl]; rfl))
    · obtain ⟨hy1, hy2, hy3⟩ := hy hia
      rw [sl_pos (by omega)] at hc4
      generalize hE : (x.1.stack.take i).flatMap spC = E at *
      have hEl : E.length = i * 2 := by rw [← hE, fm_len spC_len]; simp; omega
      have hEt : E.take (i * 2) = E := List.take_of_length_le (by omega)
      have bl : i + 1 ≤ bigN := by unfold bigN; omega
      have hyx : ∀ o o', hset (hset H4 n4 o) (n4 + 1) o' y = _ := fun o o' => (hset_ne _ _ _ (by omega)).trans ((hset_ne _ _ _ (by omega)).trans hy3)
      have hcx : ∀ o o' o'' o3, hset (hset (hset (hset H4 n4 o) (n4 + 1) o') y o'') (n4 + 1 + 1) o3 (n + 2) = _ := fun o o' o'' o3 => (hset_ne _ _ _ (by omega)).trans ((hset_ne _ _ _ (by omega)).trans ((hset_ne _ _ _ (by omega)).trans ((hset_ne _ _ _ (by omega)).trans hc4)))
      have hcy : ∀ o, hset H4 n4 o (n + 2) = _ := fun o => (hset_ne _ _ _ (by omega)).trans hc4
      have hct : [n4 + 1].contains y = false := by simp; omega
      repeat (first | apply WK.seq | apply WK.block | apply WK.skipSeq | apply WK.skipBlock | apply WK.retSeq | apply WK.retBlock | apply WK.exitSeq | apply WK.exitHere | refine WK.exitOn rfl ?_ | ((first | (refine WK.rgn ?_ ?_; kernel_rfl) | refine AtCall.now ?_); simp (config := { maxSteps := 1000000 }) only [SS, forall_const, wx, tguard, acallee, top, tval, fput, tor, vsh, vbin, tload, tload2, tload3, tstore, tstore2, tstore3, Go.AM.splice, one, tidx, tidx2, tidx3, tfa, tfa2, tlen2, tlen3, tbox, talloc, still, still1, flat1, tbuild, afill, tbs, tbs2, tap, tap2, tap3, tap4, tsrc, tsrc2, Int.reduceEq, Int.reduceNeg, Nat.reduceGT, Nat.reduceLT, Nat.reduceLeDiff, Nat.reduceEqDiff, ↓reduceIte, reduceCtorEq, Int.reduceToNat, Int.reduceLE, Int.reduceLT, Nat.reduceAdd, Nat.reduceMul, f12, f13, f14, f3, hlt, hiw, e1, e24, e3, e4, w0, w1, w2, w3, w4, w5, hc4, hcx, hcy, hyx, hct, hset_at, hEl, hEt, bl, Nat.le_refl, List.drop_zero, ff_27]) | (refine WK.condT ?_ ?_; focus (simp only [ev_tmp, ev_const, fset_apply, Nat.reduceEqDiff, ↓reduceIte, decide_true, decide_false, f12, f13, f14, f3, hlt, hiw, e1, e24, e3, e4, w0, w1, w2, w3, w4, w5, hc4, hcx, hcy, hyx, hct, hset_at, hEl, hEt, bl, Nat.le_refl, List.drop_zero, ff_27]; done)) | (refine WK.condF ?_ ?_; focus (simp only [ev_tmp, ev_const, fset_apply, Nat.reduceEqDiff, ↓reduceIte, decide_true, decide_false, f12, f13, f14, f3, hlt, hiw, e1, e24, e3, e4, w0, w1, w2, w3, w4, w5, hc4, hcx, hcy, hyx, hct, hset_at, hEl, hEt, bl, Nat.le_refl, List.drop_zero, ff_27]; done)))
      refine ih (x.1.stack.length - (i + 1)) (by omega) _ ⟨i + 1, n4 + 1 + 1, (((((k4.trans (Kp.new n4 _ _).kx).trans (Kp.new (n4 + 1) _ _).kx).set (x := y) .dead (.inr (by omega)) (by omega)).trans (Kp.new (n4 + 1 + 1) _ _).kx).set (x := n + 2) _ (.inl (.inl rfl)) (by omega)), ?_, fun _ => ⟨by omega, Nat.lt_succ_self _, ?_⟩, f2, f3, f12, f13, rfl, hlt, rfl⟩
      · exact (hset_at _ _ _).trans (by rw [sl_pos (by omega)])
      · refine (hset_ne _ _ _ (by omega)).trans ((hset_at _ _ _).trans (by rw [hfl]))
  · obtain rfl : i = x.1.stack.length := by omega
    have hz4 := (k4.keep (n + 1) (by omega) (by omega)).trans hz3
    have hyp : StOK H4 (x.1, slp y x.1.stack.length) := by
      unfold StOK
      show RN 2 spC H4 (slp y x.1.stack.length) x.1.stack
      by_cases h0 : x.1.stack.length = 0
      · rw [h0]; exact .inl ⟨rfl, List.eq_nil_of_length_eq_zero h0⟩
      · obtain ⟨_, _, hy3⟩ := hy h0
        rw [List.take_length] at hy3
        rw [slp_pos (by omega)]
        exact .inr ⟨y, 0, _, _, true, rfl, hy3, by rw [fm_len spC_len]; simp, by rw [List.drop_zero]; exact List.take_of_length_le (by rw [fm_len spC_len]; simp)⟩
    have hne : x.1.stack.length ≠ 0 → y ≠ n + 1 := fun h => by have := hy h; omega
    rw [sl_eq] at hc4
    repeat (first | apply WK.seq | apply WK.block | apply WK.skipSeq | apply WK.skipBlock | apply WK.retSeq | apply WK.retBlock | apply WK.exitSeq | apply WK.exitHere | refine WK.exitOn rfl ?_ | ((first | (refine WK.rgn ?_ ?_; kernel_rfl) | refine AtCall.now ?_); simp (config := { maxSteps := 1000000 }) only [SS, forall_const, wx, tguard, acallee, top, tval, fput, tor, vsh, vbin, tload, tload2, tload3, tstore, tstore2, tstore3, Go.AM.splice, one, tidx, tidx2, tidx3, tfa, tfa2, tlen2, tlen3, tbox, talloc, still, still1, flat1, tbuild, afill, tbs, tbs2, tap, tap2, tap3, tap4, tsrc, tsrc2, Int.reduceEq, Int.reduceNeg, Nat.reduceGT, Nat.reduceLT, Nat.reduceLeDiff, Nat.reduceEqDiff, ↓reduceIte, reduceCtorEq, Int.reduceToNat, Int.reduceLE, Int.reduceLT, Nat.reduceAdd, Nat.reduceMul, f13, f14, hlt, f2, f3, hc4, hz4, hd4, hs4, hset_at, ff_27]) | (refine WK.condT ?_ ?_; focus (simp only [ev_tmp, ev_const, fset_apply, Nat.reduceEqDiff, ↓reduceIte, decide_true, decide_false, f13, f14, hlt, f2, f3, hc4, hz4, hd4, hs4, hset_at, ff_27]; done)) | (refine WK.condF ?_ ?_; focus (simp only [ev_tmp, ev_const, fset_apply, Nat.reduceEqDiff, ↓reduceIte, decide_true, decide_false, f13, f14, hlt, f2, f3, hc4, hz4, hd4, hs4, hset_at, ff_27]; done)))
    refine WK.retNil ⟨Or.inr rfl, _, res_pl (x := n + 1) ?_ (hset_at _ _ _) rfl, fun z hz => ?_, ?_⟩
    · simp only [packed, fset_apply, Nat.reduceEqDiff, ↓reduceIte, List.getD_cons_zero, List.getD_cons_succ, f2, ff_27]
    · exact (hset_ne _ _ _ (by omega)).trans ((k04.keep z (by omega)).trans (k13.keep z hz))
    · refine ⟨slp y x.1.stack.length, rfl, ?_⟩
      rcases hyp with h | ⟨u, k, cs, ty, own, e1, e2, e3, e4⟩
      · exact .inl h
      · refine .inr ⟨u, k, cs, ty, own, e1, ?_, e3, e4⟩
        refine (hset_ne _ _ _ ?_).trans e2
        by_cases h0 : x.1.stack.length = 0
        · rw [h0] at e1; cases e1
        · rw [slp_pos (by omega)] at e1
          cases e1
          exact hne h0
end Go.Proofs.Ytfbdababcdfjfaa
