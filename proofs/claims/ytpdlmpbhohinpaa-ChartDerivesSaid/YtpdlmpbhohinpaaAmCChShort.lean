/- A part of a proof. Its conditions: none. -/
import Derived.Test.YtpdlmpbhohinpaaAmCChNeeds
set_option linter.all false
namespace Go.Proofs.Ytpdlmpbhohinpaa
open Go.AM Go.RowKit
set_option maxRecDepth 100000
theorem needL_ok {g : Gram} {c : Nat → Nat} {sets : List (List It)} : ∀ (k : Nat) (M : List (Sp × Nat)), okM M → okM (needL g c sets k M) := by
  intro k
  induction k with
  | zero => intro M h; exact h
  | succ k ih =>
    intro M h
    have hs := roundN_step (g := g) (c := c) (sets := sets) (st := (M, false)) sets.length (Nat.le_refl _)
    unfold needL
    split
    · exact ih _ (hs.ok h)
    · exact hs.ok h
theorem needs_ok {g : Gram} {c : Nat → Nat} {sets : List (List It)} : okM (needs g c sets) := needL_ok _ _ okM.nil
theorem shortS_snoc {g : Gram} {c : Nat → Nat} {a j n : Nat} {M : List (Sp × Nat)} {l : List It} (hj : j < l.length) : (l.take (j + 1)).foldl (shortS g c a M) n = shortS g c a M ((l.take j).foldl (shortS g c a M) n) l[j] := by
  rw [List.take_succ_eq_append_getElem hj, List.foldl_append]
  rfl
set_option maxHeartbeats 16000000 in
theorem shortm_gives {S H : Heap} {N o y x n : Nat} {pt pv pr pg pe pc : Option Addr} {g : Gram} {gd em : List Bool} {co : List Nat} {sets : List (List It)} {w : List Int} (st : Stat S N pr pg pe pc g gd em co) (hro : RRO S pr g.rules) (hw : WF n H) (hS : Sub S H)
    (hc : CHR H N o y x pt pv pr pg pe pc g gd em co sets w) (hk : okS g sets) (ha : sets.length ≤ 4000) (hcap : ∀ k ∈ co, k ≤ farN) :
    Gives Try.prog 22 [.pointer (some ⟨o, 0, none⟩)] n H fun v _ _ => v = .int .i64 (shortL g (cF co) sets : Nat) := by
  refine Gives.of orders ok22 (Nat.le_of_ble_eq_true rfl) ?_
  obtain ⟨c, wv, cs, ho, hyN, hy, hyl, hsr, hwv⟩ := id hc
  have low : ∀ {z cs ty own}, H z = .cells cs ty own → z < n := fun {z cs ty own} e => Classical.byContradiction fun hc => by rw [hw z (by omega)] at e; cases e
  have hon := low ho
  have hyn := low hy
  have hs0 := List.length_pos_iff.2 hk.1
  have hsl : sets.length - 1 < sets.length := by omega
  obtain ⟨pp, hpp, hlr⟩ := hsr _ hsl
  have hlast : lastS sets = sets[sets.length - 1] := by unfold lastS; rw [List.getD_eq_getElem?_getD, List.getElem?_eq_getElem hsl]; rfl
  have hlok := lastS_ok hk
  have hsh : shortL g (cF co) sets = ((lastS sets).take (lastS sets).length).foldl (shortS g (cF co) (sets.length - 1) (needs g (cF co) sets)) farN := by unfold shortL; rw [List.take_length]
  rw [← hlast] at hpp hlr
  rw [hsh]
  have hMok := needs_ok (g := g) (c := cF co) (sets := sets)
  generalize hps : lastS sets = ps at *
  have hpl := small_okL hlok st.rl st.r8 (by omega)
  repeat (first | apply qqa | apply qqb | apply qqc | apply qqd | apply qqe | apply qqf | apply qqg | apply qqh | refine qqi rfl ?_)
  have hsub : IntKind.wrap .i64 ((sets.length : Int) - 1) = ((sets.length - 1 : Nat) : Int) := by rw [wrap_in (by omega) (by omega)]; omega
  repeat (first | apply qqa | apply qqb | apply qqc | apply qqd | apply qqe | apply qqf | apply qqg | apply qqh | refine qqi rfl ?_ | ((first | (refine WK.rgn ?_ ?_; kernel_rfl) | refine AtCall.now ?_); simp (config := { maxSteps := 1000000 }) only [SS, qg0, qgb, qgl, qgs, qgi, qgf, qga, forall_const, tor, Go.AM.splice, one, tlen2, textr, tbuild, afill, Int.reduceEq, Int.reduceNeg, Nat.reduceGT, Nat.reduceLT, Nat.reduceLeDiff, Nat.reduceEqDiff, ↓reduceIte, reduceCtorEq, Int.reduceToNat, Int.reduceLE, Int.reduceLT, Nat.reduceAdd, Nat.reduceMul, ho, ch6, aop_nc, tnc, ff_22]) | refine qqj rfl ?_ | refine qqk rfl ?_)
  refine AtCall.by (needs_gives st hro hw hS hc hk ha hcap) ?_
  rintro v n1 H1 hk1 ⟨rfl, hn1, hM1⟩
  have ho1 := (hk1.keep o hon).trans ho
  have hy1 := (hk1.keep y hyn).trans hy
  have hlr1 := hlr.rk (hk1.rk hw)
  generalize needs g (cF co) sets = M at *
  simp (config := { maxSteps := 1000000 }) only [SS, qg0, qgb, qgl, qgs, qgi, qgf, qga, forall_const, tor, Go.AM.splice, one, tlen2, textr, tbuild, afill, Int.reduceEq, Int.reduceNeg, Nat.reduceGT, Nat.reduceLT, Nat.reduceLeDiff, Nat.reduceEqDiff, ↓reduceIte, reduceCtorEq, Int.reduceToNat, Int.reduceLE, Int.reduceLT, Nat.reduceAdd, Nat.reduceMul, ff_22]
  repeat (first | apply qqa | apply qqb | apply qqc | apply qqd | apply qqe | apply qqf | apply qqg | apply qqh | refine qqi rfl ?_ | ((first | (refine WK.rgn ?_ ?_; kernel_rfl) | refine AtCall.now ?_); simp (config := { maxSteps := 1000000 }) only [SS, qg0, qgb, qgl, qgs, qgi, qgf, qga, forall_const, tor, Go.AM.splice, one, tlen2, textr, tbuild, afill, Int.reduceEq, Int.reduceNeg, Nat.reduceGT, Nat.reduceLT, Nat.reduceLeDiff, Nat.reduceEqDiff, ↓reduceIte, reduceCtorEq, Int.reduceToNat, Int.reduceLE, Int.reduceLT, Nat.reduceAdd, Nat.reduceMul, ho1, ch6, hsub, hsl, hy1, hpp, aop_nc, tnc, ff_22]) | refine qqj rfl ?_ | refine qqk rfl ?_)
  refine WK.loop (fun k2 s => ∃ j : Nat, Kp n H s.n s.H ∧ s.H n = MN M ∧ s.f 0 = .pointer (some ⟨o, 0, none⟩) ∧ s.f 3 = .map (some n) ∧ s.f 4 = .int .i64 ((sets.length - 1 : Nat) : Int) ∧ s.f 5 = .int .i64 ((ps.take j).foldl (shortS g (cF co) (sets.length - 1) M) farN : Nat) ∧ s.f 25 = .slice pp ps.length ps.length ∧ s.f 26 = .int .i64 (ps.length : Nat) ∧ s.f 27 = .int .i64 (j : Nat) ∧ j ≤ ps.length ∧ k2 = ps.length - j) ps.length ?_ ?_
  · exact ⟨0, hk1, hM1, rfl, rfl, rfl, rfl, rfl, rfl, rfl, Nat.zero_le _, rfl⟩
  rintro kk ⟨f, n3, H3⟩ ⟨j, kx, hM3, f0, f3, f4, f5, f25, f26, f27, hj, rfl⟩ ih
  simp only at f0 f3 f4 f5 f25 f26 f27 kx hM3 ih
  have hw3 := kx.wf hw
  have hS3 := hS.kp hw kx
  have ho3 := (kx.keep o hon).trans ho
  have hn3 : n < n3 := Classical.byContradiction fun hc => by rw [hw3 n (by omega)] at hM3; unfold MN at hM3; cases hM3
  have hfar : farN = 1073741824 := rfl
  by_cases hlt : j < ps.length
  · obtain ⟨zp, op, rfl, hzp, e3, e4⟩ := (hlr.rk (kx.rk hw)).at hlt
    obtain ⟨hq1, hq2, hq3⟩ := hlok.ok _ (List.getElem_mem hlt)
    have hsn := shortS_snoc (g := g) (c := cF co) (a := sets.length - 1) (n := farN) (M := M) hlt
    have hnl := shortS_le (g := g) (c := cF co) (a := sets.length - 1) (M := M) (ps.take j) farN (Nat.le_refl _)
    generalize (ps.take j).foldl (shortS g (cF co) (sets.length - 1) M) farN = nn at *
    generalize ps[j] = xj at *
    have hsmx := okI.small (x := xj) ⟨hq1, hq2, hq3⟩ st.rl st.r8 (by omega)
    have hk4 := Kp.new n3 H3 (.cells (itC xj) 74 true)
    have hb4 := hset_at H3 n3 (.cells (itC xj) 74 true)
    have ho4 := (hk4.keep o (by omega)).trans ho3
    have hM4 := (hk4.keep n hn3).trans hM3
    have hS4 := hS3.kp hw3 hk4
    have hw4 := hk4.wf hw3
    have kx4 := kx.trans hk4
    generalize hE : hset H3 n3 (.cells (itC xj) 74 true) = H4 at *
    have hwj : IntKind.wrap .i64 ((j : Int) + 1) = ((j + 1 : Nat) : Int) := by rw [wrap_in (by omega) (by omega)]; rfl
    have hsm : smS (sets.length - 1, xj) := ⟨by show sets.length - 1 ≤ 1000000; omega, by show xj.1 ≤ 1000000; omega, by show xj.2.1 ≤ 1000000; omega, by show xj.2.2 ≤ 1000000; omega⟩
    have hlk := look_sp hM4 hsm
    rw [show shortS g (cF co) (sets.length - 1) M nn xj = (match getM M (sets.length - 1, xj) with | some m => min nn (m + restN g (cF co) xj xj.2.1) | none => nn) from rfl] at hsn
    cases hg : getM M (sets.length - 1, xj) with
    | none =>
      rw [hg] at hsn hlk
      repeat (first | apply qqa | apply qqb | apply qqc | apply qqd | apply qqe | apply qqf | apply qqg | apply qqh | refine qqi rfl ?_ | ((first | (refine WK.rgn ?_ ?_; kernel_rfl) | refine AtCall.now ?_); simp (config := { maxSteps := 1000000 }) only [SS, qg0, qgb, qgl, qgs, qgi, qgf, qga, forall_const, tor, Go.AM.splice, one, tlen2, textr, tbuild, afill, Int.reduceEq, Int.reduceNeg, Nat.reduceGT, Nat.reduceLT, Nat.reduceLeDiff, Nat.reduceEqDiff, ↓reduceIte, reduceCtorEq, Int.reduceToNat, Int.reduceLE, Int.reduceLT, Nat.reduceAdd, Nat.reduceMul, f0, f3, f4, f5, f25, f26, f27, hlt, hzp, e3, e4, itvc, itone, itsp, itle, ittk, itag, hb4, hE, aop_look, itC_len, not_true_eq_false, Option.map_some, spsp, spag, hlk, Option.isSome_none, Option.getD_none, hwj, ff_22]) | refine qqj rfl ?_ | refine qqk rfl ?_)
      refine ih (ps.length - (j + 1)) (by omega) _ ?_
      refine ⟨j + 1, kx4, hM4, f0, f3, f4, ?_, f25, f26, rfl, hlt, rfl⟩
      rw [hsn]; exact f5
    | some m =>
      rw [hg] at hsn hlk
      have hmb := hMok _ _ hg
      have hrb := restN_le g (cF co) xj xj.2.1
      have hrt : (rgt g xj.1).length ≤ 8 := by rw [rgt_at hq1]; exact st.r8 _ (List.getElem_mem hq1)
      repeat (first | apply qqa | apply qqb | apply qqc | apply qqd | apply qqe | apply qqf | apply qqg | apply qqh | refine qqi rfl ?_ | ((first | (refine WK.rgn ?_ ?_; kernel_rfl) | refine AtCall.now ?_); simp (config := { maxSteps := 1000000 }) only [SS, qg0, qgb, qgl, qgs, qgi, qgf, qga, forall_const, tor, Go.AM.splice, one, tlen2, textr, tbuild, afill, Int.reduceEq, Int.reduceNeg, Nat.reduceGT, Nat.reduceLT, Nat.reduceLeDiff, Nat.reduceEqDiff, ↓reduceIte, reduceCtorEq, Int.reduceToNat, Int.reduceLE, Int.reduceLT, Nat.reduceAdd, Nat.reduceMul, f0, f3, f4, f5, f25, f26, f27, hlt, hzp, e3, e4, itvc, itone, itsp, itle, ittk, itag, it0, it1, it2, hb4, hE, aop_look, itC_len, not_true_eq_false, Option.map_some, spsp, spag, hlk, Option.isSome_some, Option.getD_some, hwj, ff_22]) | refine qqj rfl ?_ | refine qqk rfl ?_)
      refine AtCall.by (rest_gives (d := xj.2.1) st hro hw4 hS4 ho4 hq1 hq2 hcap) ?_
      rintro wq n8 H8 hk8 rfl
      have hM8 := (hk8.keep n (by omega)).trans hM4
      have kx8 := kx4.trans hk8
      simp only at hsn
      generalize restN g (cF co) xj xj.2.1 = r at *
      have hadd : IntKind.wrap .i64 ((m : Int) + (r : Int)) = ((m + r : Nat) : Int) := by rw [wrap_in (by omega) (by omega)]; rfl
      have hmin : (if m + r < nn then ((m + r : Nat) : Int) else (nn : Int)) = ((min nn (m + r) : Nat) : Int) := by split <;> omega
      simp (config := { maxSteps := 1000000 }) only [SS, qg0, qgb, qgl, qgs, qgi, qgf, qga, forall_const, tor, Go.AM.splice, one, tlen2, textr, tbuild, afill, Int.reduceEq, Int.reduceNeg, Nat.reduceGT, Nat.reduceLT, Nat.reduceLeDiff, Nat.reduceEqDiff, ↓reduceIte, reduceCtorEq, Int.reduceToNat, Int.reduceLE, Int.reduceLT, Nat.reduceAdd, Nat.reduceMul, f5, hadd, aop_min, tmm, Bool.false_eq_true, hmin, ff_22]
      repeat (first | apply qqa | apply qqb | apply qqc | apply qqd | apply qqe | apply qqf | apply qqg | apply qqh | refine qqi rfl ?_ | ((first | (refine WK.rgn ?_ ?_; kernel_rfl) | refine AtCall.now ?_); simp (config := { maxSteps := 1000000 }) only [SS, qg0, qgb, qgl, qgs, qgi, qgf, qga, forall_const, tor, Go.AM.splice, one, tlen2, textr, tbuild, afill, Int.reduceEq, Int.reduceNeg, Nat.reduceGT, Nat.reduceLT, Nat.reduceLeDiff, Nat.reduceEqDiff, ↓reduceIte, reduceCtorEq, Int.reduceToNat, Int.reduceLE, Int.reduceLT, Nat.reduceAdd, Nat.reduceMul, f0, f3, f4, f5, f25, f26, f27, hadd, aop_min, tmm, Bool.false_eq_true, hmin, hwj, ff_22]) | refine qqj rfl ?_ | refine qqk rfl ?_)
      refine ih (ps.length - (j + 1)) (by omega) _ ?_
      refine ⟨j + 1, kx8, hM8, f0, f3, f4, ?_, f25, f26, rfl, hlt, rfl⟩
      rw [hsn]; rfl
  · have hje : j = ps.length := by omega
    repeat (first | apply qqa | apply qqb | apply qqc | apply qqd | apply qqe | apply qqf | apply qqg | apply qqh | refine qqi rfl ?_ | ((first | (refine WK.rgn ?_ ?_; kernel_rfl) | refine AtCall.now ?_); simp (config := { maxSteps := 1000000 }) only [SS, qg0, qgb, qgl, qgs, qgi, qgf, qga, forall_const, tor, Go.AM.splice, one, tlen2, textr, tbuild, afill, Int.reduceEq, Int.reduceNeg, Nat.reduceGT, Nat.reduceLT, Nat.reduceLeDiff, Nat.reduceEqDiff, ↓reduceIte, reduceCtorEq, Int.reduceToNat, Int.reduceLE, Int.reduceLT, Nat.reduceAdd, Nat.reduceMul, f0, f3, f4, f5, f25, f26, f27, hlt, ff_22]) | refine qqj rfl ?_ | refine qqk rfl ?_)
    (first | refine WK.retNil ⟨Or.inr rfl, _, rfl, ?_, ?_⟩ | refine WK.skipNil ⟨Or.inl rfl, _, rfl, ?_, ?_⟩)
    · exact kx.keep
    · simp only [packed, fset_apply, Nat.reduceEqDiff, ↓reduceIte, List.getD_cons_zero, List.getD_cons_succ, f5, ff_22]
      rw [hje]
end Go.Proofs.Ytpdlmpbhohinpaa
