/- A part of a proof. Its conditions: none. -/
import Derived.Test.YtpdlmpbhohinpaaAmCChNeeds
import Derived.Test.YtpdlmpbhohinpaaAmC
import Derived.Test.YtpdlmpbhohinpaaAmCFacts
import Derived.Test.YtpdlmpbhohinpaaAmD
set_option linter.all false
namespace Go.Proofs.Ytpdlmpbhohinpaa
open Go.AM Go.RowKit
set_option maxRecDepth 100000
theorem needL_ok {g : Gram} {c : Nat → Nat} {sets : List (List It)} : ∀ (k : Nat) (M : List (Sp × Nat)), okM M → okM (needL g c sets k M) := by
  intro k
  induction k with
  | zero => intro M h; exact h
  | succ k ih =>
    intro M h
    have hs := roundN_step (g := g) (c := c) (sets := sets) (st := (M, false)) sets.length (Nat.le_refl _)
    unfold needL
    split
    · exact ih _ (hs.ok h)
    · exact hs.ok h
theorem needs_ok {g : Gram} {c : Nat → Nat} {sets : List (List It)} : okM (needs g c sets) := needL_ok _ _ okM.nil
theorem shortS_snoc {g : Gram} {c : Nat → Nat} {a j n : Nat} {M : List (Sp × Nat)} {l : List It} (hj : j < l.length) : (l.take (j + 1)).foldl (shortS g c a M) n = shortS g c a M ((l.take j).foldl (shortS g c a M) n) l[j] := by
  rw [List.take_succ_eq_append_getElem hj, List.foldl_append]
  rfl
set_option maxHeartbeats 16000000 in
theorem shortm_gives {S H : Heap} {N o y x n : Nat} {pt pv pr pg pe pc : Option Addr} {g : Gram} {gd em : List Bool} {co : List Nat} {sets : List (List It)} {w : List Int} (st : Stat S N pr pg pe pc g gd em co) (hro : RRO S pr g.rules) (hw : WF n H) (hS : Sub S H)
    (hc : CHR H N o y x pt pv pr pg pe pc g gd em co sets w) (hk : okS g sets) (ha : sets.length ≤ 4000) (hcap : ∀ k ∈ co, k ≤ farN) :
    Gives Try.prog 22 [.pointer (some ⟨o, 0, none⟩)] n H fun v _ _ => v = .int .i64 (shortL g (cF co) sets : Nat) := by
  refine Gives.of orders ok22 (Nat.le_of_ble_eq_true rfl) ?_
  obtain ⟨c, wv, cs, ho, hyN, hy, hyl, hsr, hwv⟩ := id hc
  have low : ∀ {z cs ty own}, H z = .cells cs ty own → z < n := fun {z cs ty own} e => Classical.byContradiction fun hc => by rw [hw z (by omega)] at e; cases e
  have hon := low ho
  have hyn := low hy
  have hs0 := List.length_pos_iff.2 hk.1
  have hsl : sets.length - 1 < sets.length := by omega
  obtain ⟨pp, hpp, hlr⟩ := hsr _ hsl
  have hlast : lastS sets = sets[sets.length - 1] := by unfold lastS; rw [List.getD_eq_getElem?_getD, List.getElem?_eq_getElem hsl]; rfl
  have hlok := lastS_ok hk
  have hsh : shortL g (cF co) sets = ((lastS sets).take (lastS sets).length).foldl (shortS g (cF co) (sets.length - 1) (needs g (cF co) sets)) farN := by unfold shortL; rw [List.take_length]
  rw [← hlast] at hpp hlr
  rw [hsh]
  have hMok := needs_ok (g := g) (c := cF co) (sets := sets)
  generalize hps : lastS sets = ps at *
  have hpl := small_okL hlok st.rl st.r8 (by omega)
  repeat (first | apply qqa | apply qqb | apply qqc | apply qqd | apply qqe | apply qqf | apply qqg | apply qqh | refine qqi rfl ?_)
  have hsub : IntKind.wrap .i64 ((sets.length : Int) - 1) = ((sets.length - 1 : Nat) : Int) := by rw [wrap_in (by omega) (by omega)]; omega
  repeat (first | apply qqa | apply qqb | apply qqc | apply qqd | apply qqe | apply qqf | apply qqg | apply qqh | refine qqi rfl ?_ | ((first | (refine WK.rgn ?_ ?_; kernel_rfl) | refine AtCall.now ?_); simp (config := { maxSteps := 1000000 }) only [SS, qg0, qgb, qgl, qgs, qgi, qgf, qga, forall_const, tor, Go.AM.splice, one, tlen2, textr, tbuild, afill, Int.reduceEq, Int.reduceNeg, Nat.reduceGT, Nat.reduceLT, Nat.reduceLeDiff, Nat.reduceEqDiff, ↓reduceIte, reduceCtorEq, Int.reduceToNat, Int.reduceLE, Int.reduceLT, Nat.reduceAdd, Nat.reduceMul, ho, ch6, aop_nc, tnc, ff_22]) | refine qqj rfl ?_ | refine qqk rfl ?_)
  refine AtCall.by (needs_gives st hro hw hS hc hk ha hcap) ?_
  rintro v n1 H1 hk1 ⟨rfl, hn1, hM1⟩
  have ho1 := (hk1.keep o hon).trans ho
  have hy1 := (hk1.keep y hyn).trans hy
  have hlr1 := hlr.rk (hk1.rk hw)
  generalize needs g (cF co) sets = M at *
  simp (config := { maxSteps := 1000000 }) only [SS, qg0, qgb, qgl, qgs, qgi, qgf, qga, forall_const, tor, Go.AM.splice, one, tlen2, textr, tbuild, afill, Int.reduceEq, Int.reduceNeg, Nat.reduceGT, Nat.reduceLT, Nat.reduceLeDiff, Nat.reduceEqDiff, ↓reduceIte, reduceCtorEq, Int.reduceToNat, Int.reduceLE, Int.reduceLT, Nat.reduceAdd, Nat.reduceMul, ff_22]
  repeat (first | apply qqa | apply qqb | apply qqc | apply qqd | apply qqe | apply qqf | apply qqg | apply qqh | refine qqi rfl ?_ | ((first | (refine WK.rgn ?_ ?_; kernel_rfl) | refine AtCall.now ?_); simp (config := { maxSteps := 1000000 }) only [SS, qg0, qgb, qgl, qgs, qgi, qgf, qga, forall_const, tor, Go.AM.splice, one, tlen2, textr, tbuild, afill, Int.reduceEq, Int.reduceNeg, Nat.reduceGT, Nat.reduceLT, Nat.reduceLeDiff, Nat.reduceEqDiff, ↓reduceIte, reduceCtorEq, Int.reduceToNat, Int.reduceLE, Int.reduceLT, Nat.reduceAdd, Nat.reduceMul, ho1, ch6, hsub, hsl, hy1, hpp, aop_nc, tnc, ff_22]) | refine qqj rfl ?_ | refine qqk rfl ?_)
  refine WK.loop (fun k2 s => ∃ j : Nat, Kp n H s.n s.H ∧ s.H n = MN M ∧ s.f 0 = .pointer (some ⟨o, 0, none⟩) ∧ s.f 3 = .map (some n) ∧ s.f 4 = .int .i64 ((sets.length - 1 : Nat) : Int) ∧ s.f 5 = .int .i64 ((ps.take j).foldl (shortS g (cF co) (sets.length - 1) M) farN : Nat) ∧ s.f 25 = .slice pp ps.length ps.length ∧ s.f 26 = .int .i64 (ps.length : Nat) ∧ s.f 27 = .int .i64 (j : Nat) ∧ j ≤ ps.length ∧ k2 = ps.length - j) ps.length ?_ ?_
  · exact ⟨0, hk1, hM1, rfl, rfl, rfl, rfl, rfl, rfl, rfl, Nat.zero_le _, rfl⟩
  rintro kk ⟨f, n3, H3⟩ ⟨j, kx, hM3, f0, f3, f4, f5, f25, f26, f27, hj, rfl⟩ ih
  simp only at f0 f3 f4 f5 f25 f26 f27 kx hM3 ih
  have hw3 := kx.wf hw
  have hS3 := hS.kp hw kx
  have ho3 := (kx.keep o hon).trans ho
  have hn3 : n < n3 := Classical.byContradiction fun hc => by rw [hw3 n (by omega)] at hM3; unfold MN at hM3; cases hM3
  have hfar : farN = 1073741824 := rfl
  by_cases hlt : j < ps.length
  · obtain ⟨zp, op, rfl, hzp, e3, e4⟩ := (hlr.rk (kx.rk hw)).at hlt
    obtain ⟨hq1, hq2, hq3⟩ := hlok.ok _ (List.getElem_mem hlt)
    have hsn := shortS_snoc (g := g) (c := cF co) (a := sets.length - 1) (n := farN) (M := M) hlt
    have hnl := shortS_le (g := g) (c := cF co) (a := sets.length - 1) (M := M) (ps.take j) farN (Nat.le_refl _)
    generalize (ps.take j).foldl (shortS g (cF co) (sets.length - 1) M) farN = nn at *
    generalize ps[j] = xj at *
    have hsmx := okI.small (x := xj) ⟨hq1, hq2, hq3⟩ st.rl st.r8 (by omega)
    have hk4 := Kp.new n3 H3 (.cells (itC xj) 74 true)
    have hb4 := hset_at H3 n3 (.cells (itC xj) 74 true)
    have ho4 := (hk4.keep o (by omega)).trans ho3
    have hM4 := (hk4.keep n hn3).trans hM3
    have hS4 := hS3.kp hw3 hk4
    have hw4 := hk4.wf hw3
    have kx4 := kx.trans hk4
    generalize hE : hset H3 n3 (.cells (itC xj) 74 true) = H4 at *
    have hwj : IntKind.wrap .i64 ((j : Int) + 1) = ((j + 1 : Nat) : Int) := by rw [wrap_in (by omega) (by omega)]; rfl
    have hsm : smS (sets.length - 1, xj) := ⟨by show sets.length - 1 ≤ 1000000; omega, by show xj.1 ≤ 1000000; omega, by show xj.2.1 ≤ 1000000; omega, by show xj.2.2 ≤ 1000000; omega⟩
    have hlk := look_sp hM4 hsm
    rw [show shortS g (cF co) (sets.length - 1) M nn xj = (match getM M (sets.length - 1, xj) with | some m => min nn (m + restN g (cF co) xj xj.2.1) | none => nn) from rfl] at hsn
    cases hg : getM M (sets.length - 1, xj) with
    | none =>
      rw [hg] at hsn hlk
      repeat (first | apply qqa | apply qqb | apply qqc | apply qqd | apply qqe | apply qqf | apply qqg | apply qqh | refine qqi rfl ?_ | ((first | (refine WK.rgn ?_ ?_; kernel_rfl) | refine AtCall.now ?_); simp (config := { maxSteps := 1000000 }) only [SS, qg0, qgb, qgl, qgs, qgi, qgf, qga, forall_const, tor, Go.AM.splice, one, tlen2, textr, tbuild, afill, Int.reduceEq, Int.reduceNeg, Nat.reduceGT, Nat.reduceLT, Nat.reduceLeDiff, Nat.reduceEqDiff, ↓reduceIte, reduceCtorEq, Int.reduceToNat, Int.reduceLE, Int.reduceLT, Nat.reduceAdd, Nat.reduceMul, f0, f3, f4, f5, f25, f26, f27, hlt, hzp, e3, e4, itvc, itone, itsp, itle, ittk, itag, hb4, hE, aop_look, itC_len, not_true_eq_false, Option.map_some, spsp, spag, hlk, Option.isSome_none, Option.getD_none, hwj, ff_22]) | refine qqj rfl ?_ | refine qqk rfl ?_)
      refine ih (ps.length - (j + 1)) (by omega) _ ?_
      refine ⟨j + 1, kx4, hM4, f0, f3, f4, ?_, f25, f26, rfl, hlt, rfl⟩
      rw [hsn]; exact f5
    | some m =>
      rw [hg] at hsn hlk
      have hmb := hMok _ _ hg
      have hrb := restN_le g (cF co) xj xj.2.1
      have hrt : (rgt g xj.1).length ≤ 8 := by rw [rgt_at hq1]; exact st.r8 _ (List.getElem_mem hq1)
      repeat (first | apply qqa | apply qqb | apply qqc | apply qqd | apply qqe | apply qqf | apply qqg | apply qqh | refine qqi rfl ?_ | ((first | (refine WK.rgn ?_ ?_; kernel_rfl) | refine AtCall.now ?_); simp (config := { maxSteps := 1000000 }) only [SS, qg0, qgb, qgl, qgs, qgi, qgf, qga, forall_const, tor, Go.AM.splice, one, tlen2, textr, tbuild, afill, Int.reduceEq, Int.reduceNeg, Nat.reduceGT, Nat.reduceLT, Nat.reduceLeDiff, Nat.reduceEqDiff, ↓reduceIte, reduceCtorEq, Int.reduceToNat, Int.reduceLE, Int.reduceLT, Nat.reduceAdd, Nat.reduceMul, f0, f3, f4, f5, f25, f26, f27, hlt, hzp, e3, e4, itvc, itone, itsp, itle, ittk, itag, it0, it1, it2, hb4, hE, aop_look, itC_len, not_true_eq_false, Option.map_some, spsp, spag, hlk, Option.isSome_some, Option.getD_some, hwj, ff_22]) | refine qqj rfl ?_ | refine qqk rfl ?_)
      refine AtCall.by (rest_gives (d := xj.2.1) st hro hw4 hS4 ho4 hq1 hq2 hcap) ?_
      rintro wq n8 H8 hk8 rfl
      have hM8 := (hk8.keep n (by omega)).trans hM4
      have kx8 := kx4.trans hk8
      simp only at hsn
      generalize restN g (cF co) xj xj.2.1 = r at *
      have hadd : IntKind.wrap .i64 ((m : Int) + (r : Int)) = ((m + r : Nat) : Int) := by rw [wrap_in (by omega) (by omega)]; rfl
      have hmin : (if m + r < nn then ((m + r : Nat) : Int) else (nn : Int)) = ((min nn (m + r) : Nat) : Int) := by split <;> omega
      simp (config := { maxSteps := 1000000 }) only [SS, qg0, qgb, qgl, qgs, qgi, qgf, qga, forall_const, tor, Go.AM.splice, one, tlen2, textr, tbuild, afill, Int.reduceEq, Int.reduceNeg, Nat.reduceGT, Nat.reduceLT, Nat.reduceLeDiff, Nat.reduceEqDiff, ↓reduceIte, reduceCtorEq, Int.reduceToNat, Int.reduceLE, Int.reduceLT, Nat.reduceAdd, Nat.reduceMul, f5, hadd, aop_min, tmm, Bool.false_eq_true, hmin, ff_22]
      repeat (first | apply qqa | apply qqb | apply qqc | apply qqd | apply qqe | apply qqf | apply qqg | apply qqh | refine qqi rfl ?_ | ((first | (refine WK.rgn ?_ ?_; kernel_rfl) | refine AtCall.now ?_); simp (config := { maxSteps := 1000000 }) only [SS, qg0, qgb, qgl, qgs, qgi, qgf, qga, forall_const, tor, Go.AM.splice, one, tlen2, textr, tbuild, afill, Int.reduceEq, Int.reduceNeg, Nat.reduceGT, Nat.reduceLT, Nat.reduceLeDiff, Nat.reduceEqDiff, ↓reduceIte, reduceCtorEq, Int.reduceToNat, Int.reduceLE, Int.reduceLT, Nat.reduceAdd, Nat.reduceMul, f0, f3, f4, f5, f25, f26, f27, hadd, aop_min, tmm, Bool.false_eq_true, hmin, hwj, ff_22]) | refine qqj rfl ?_ | refine qqk rfl ?_)
      refine ih (ps.length - (j + 1)) (by omega) _ ?_
      refine ⟨j + 1, kx8, hM8, f0, f3, f4, ?_, f25, f26, rfl, hlt, rfl⟩
      rw [hsn]; rfl
  · have hje : j = ps.length := by omega
    repeat (first | apply qqa | apply qqb | apply qqc | apply qqd | apply qqe | apply qqf | apply qqg | apply qqh | refine qqi rfl ?_ | ((first | (refine WK.rgn ?_ ?_; kernel_rfl) | refine AtCall.now ?_); simp (config := { maxSteps := 1000000 }) only [SS, qg0, qgb, qgl, qgs, qgi, qgf, qga, forall_const, tor, Go.AM.splice, one, tlen2, textr, tbuild, afill, Int.reduceEq, Int.reduceNeg, Nat.reduceGT, Nat.reduceLT, Nat.reduceLeDiff, Nat.reduceEqDiff, ↓reduceIte, reduceCtorEq, Int.reduceToNat, Int.reduceLE, Int.reduceLT, Nat.reduceAdd, Nat.reduceMul, f0, f3, f4, f5, f25, f26, f27, hlt, ff_22]) | refine qqj rfl ?_ | refine qqk rfl ?_)
    (first | refine WK.retNil ⟨Or.inr rfl, _, rfl, ?_, ?_⟩ | refine WK.skipNil ⟨Or.inl rfl, _, rfl, ?_, ?_⟩)
    · exact kx.keep
    · simp only [packed, fset_apply, Nat.reduceEqDiff, ↓reduceIte, List.getD_cons_zero, List.getD_cons_succ, f5, ff_22]
      rw [hje]
end Go.Proofs.Ytpdlmpbhohinpaa

namespace Go.Proofs.Ytpdlmpbhohinpaa
open Go.AM Go.RowKit
set_option maxRecDepth 100000
theorem WV.val {H : Heap} {N x : Nat} {v : Value} {w : List Int} (h : WV H N x v w) : ∃ p c, v = .slice p w.length c := by
  rcases h with ⟨rfl, rfl⟩ | ⟨c, cs, rfl, _⟩
  · exact ⟨none, 0, rfl⟩
  · exact ⟨_, c, rfl⟩
theorem clone_gives {H : Heap} {p : Option Addr} {c n : Nat} {w : List Int} (hw : WF n H) (hwl : w.length ≤ 1000000) (h : (w = [] ∧ p = none ∧ c = 0) ∨ ∃ x k cs ty own, p = some ⟨x, k, none⟩ ∧ H x = .cells cs ty own ∧ k + w.length ≤ cs.length ∧ (cs.drop k).take w.length = w.map (.int .i64)) :
    Gives Try.prog 47 [.slice p w.length c] n H fun v _ H' => ∃ q, v = .slice q w.length w.length ∧ ((q = none ∧ w = []) ∨ ∃ z, q = some ⟨z, 0, none⟩ ∧ n ≤ z ∧ H' z = .cells (w.map (.int .i64)) 3 true) := by
  refine Gives.of orders ok47 (Nat.le_of_ble_eq_true rfl) ?_
  rcases h with ⟨rfl, rfl, rfl⟩ | ⟨x, k, cs, ty, own, rfl, hx, hl, ht⟩
  · have hu : Try.prog.underlying 26 = some (.slice 3) := by kernel_rfl
    repeat (first | apply qqa | apply qqb | apply qqc | apply qqd | apply qqe | apply qqf | apply qqg | apply qqh | refine qqi rfl ?_ | ((first | (refine WK.rgn ?_ ?_; kernel_rfl) | refine AtCall.now ?_); simp (config := { maxSteps := 1000000 }) only [SS, qg0, qgb, qgz, qge, forall_const, tor, Go.AM.splice, one, Int.reduceEq, Int.reduceNeg, Nat.reduceGT, Nat.reduceLT, Nat.reduceLeDiff, Nat.reduceEqDiff, ↓reduceIte, reduceCtorEq, Int.reduceToNat, Int.reduceLE, Int.reduceLT, Nat.reduceAdd, Nat.reduceMul, List.length_nil, aop_sn hu, asn, ff_47]) | refine qqj rfl ?_ | refine qqk rfl ?_)
    (first | refine WK.retNil ⟨Or.inr rfl, _, rfl, ?_, ?_⟩ | refine WK.skipNil ⟨Or.inl rfl, _, rfl, ?_, ?_⟩)
    · exact fun _ _ => rfl
    · simp only [packed, fset_apply, Nat.reduceEqDiff, ↓reduceIte, List.getD_cons_zero, List.getD_cons_succ, ff_47]
      exact ⟨none, rfl, by simp⟩
  · have hxn : x < n := Classical.byContradiction fun hc => by rw [hw x (by omega)] at hx; cases hx
    have k1 := Kp.new n H (.cells [] 3 true)
    have b1 := hset_at H n (.cells [] 3 true)
    have x1 := (k1.keep x hxn).trans hx
    have z1 : w.length ≤ bigN := by unfold bigN; omega
    have z2 : [x].contains n = false := by simp; omega
    generalize hE1 : hset H n (.cells [] 3 true) = H1 at *
    have k2 := k1.set (x := n) .dead (Nat.le_refl _) (by omega)
    generalize hE2 : hset H1 n .dead = H2 at *
    have k3 := Kp.new (n + 1) H2 (.cells (w.map (.int .i64)) 3 true)
    have b3 := hset_at H2 (n + 1) (.cells (w.map (.int .i64)) 3 true)
    have hu : Try.prog.underlying 26 = some (.slice 3) := by kernel_rfl
    repeat (first | apply qqa | apply qqb | apply qqc | apply qqd | apply qqe | apply qqf | apply qqg | apply qqh | refine qqi rfl ?_ | ((first | (refine WK.rgn ?_ ?_; kernel_rfl) | refine AtCall.now ?_); simp (config := { maxSteps := 1000000 }) only [SS, qg0, qgb, qgz, qge, forall_const, tor, Go.AM.splice, one, Int.reduceEq, Int.reduceNeg, Nat.reduceGT, Nat.reduceLT, Nat.reduceLeDiff, Nat.reduceEqDiff, ↓reduceIte, reduceCtorEq, Int.reduceToNat, Int.reduceLE, Int.reduceLT, Nat.reduceAdd, Nat.reduceMul, aop_sn hu, asn, hE1, hx, x1, b1, hl, z1, z2, hE2, List.drop_zero, List.take_zero, List.nil_append, Nat.zero_add, ht, ff_47]) | refine qqj rfl ?_ | refine qqk rfl ?_)
    (first | refine WK.retNil ⟨Or.inr rfl, _, rfl, ?_, ?_⟩ | refine WK.skipNil ⟨Or.inl rfl, _, rfl, ?_, ?_⟩)
    · exact (k2.trans k3).keep
    · simp only [packed, fset_apply, Nat.reduceEqDiff, ↓reduceIte, List.getD_cons_zero, List.getD_cons_succ, ff_47]
      exact ⟨_, rfl, .inr ⟨n + 1, rfl, by omega, b3⟩⟩
def WO (n : Nat) (H : Heap) (v : Value) (w : List Int) : Prop := ∃ q, v = .slice q w.length w.length ∧ ((q = none ∧ w = []) ∨ ∃ z, q = some ⟨z, 0, none⟩ ∧ n ≤ z ∧ H z = .cells (w.map (.int .i64)) 3 true)
theorem WO.rs {n : Nat} {H : Heap} {v : Value} {w : List Int} (h : WO n H v w) : ∃ q, v = .slice q w.length w.length ∧ RS (Value.int .i64) H q w := by
  obtain ⟨q, rfl, h | ⟨z, rfl, _, hz⟩⟩ := h
  · exact ⟨q, rfl, .inl h⟩
  · exact ⟨_, rfl, .inr ⟨z, 0, _, _, _, rfl, hz, by simp, fun i y e => by rw [Nat.zero_add, List.getElem?_map, e]; rfl⟩⟩
theorem word_gives {H : Heap} {N o y x n : Nat} {pt pv pr pg pe pc : Option Addr} {g : Gram} {gd em : List Bool} {co : List Nat} {sets : List (List It)} {w : List Int} (hw : WF n H) (hwl : w.length ≤ 4000)
    (hc : CHR H N o y x pt pv pr pg pe pc g gd em co sets w) :
    Gives Try.prog 15 [.pointer (some ⟨o, 0, none⟩)] n H fun v _ H' => WO n H' v w := by
  refine Gives.of orders ok15 (Nat.le_of_ble_eq_true rfl) ?_
  obtain ⟨c, wv, cs, ho, hyN, hy, hyl, hsr, hwv⟩ := id hc
  obtain ⟨p, cw, rfl⟩ := hwv.val
  repeat (first | apply qqa | apply qqb | apply qqc | apply qqd | apply qqe | apply qqf | apply qqg | apply qqh | refine qqi rfl ?_ | ((first | (refine WK.rgn ?_ ?_; kernel_rfl) | refine AtCall.now ?_); simp (config := { maxSteps := 1000000 }) only [SS, qg0, qgl, qgf, forall_const, Int.reduceEq, Int.reduceNeg, Nat.reduceGT, Nat.reduceLT, Nat.reduceLeDiff, Nat.reduceEqDiff, ↓reduceIte, reduceCtorEq, Int.reduceToNat, Int.reduceLE, Int.reduceLT, Nat.reduceAdd, Nat.reduceMul, ho, ch7, aop_nc, tnc, ff_15]) | refine qqj rfl ?_ | refine qqk rfl ?_)
  refine AtCall.by (clone_gives (w := w) hw (by omega) ?_) ?_
  · rcases hwv with ⟨h1, h2⟩ | ⟨c2, cx, h1, h2, h3, h4, h5⟩
    · subst h1; cases h2; exact .inl ⟨rfl, rfl, rfl⟩
    · cases h1; exact .inr ⟨x, 0, cx, _, _, rfl, h3, by omega, h5⟩
  rintro v n2 H2 hk2 hv
  simp (config := { maxSteps := 1000000 }) only [SS, qg0, qgl, qgf, forall_const, Int.reduceEq, Int.reduceNeg, Nat.reduceGT, Nat.reduceLT, Nat.reduceLeDiff, Nat.reduceEqDiff, ↓reduceIte, reduceCtorEq, Int.reduceToNat, Int.reduceLE, Int.reduceLT, Nat.reduceAdd, Nat.reduceMul, ff_15]
  repeat (first | apply qqa | apply qqb | apply qqc | apply qqd | apply qqe | apply qqf | apply qqg | apply qqh | refine qqi rfl ?_ | ((first | (refine WK.rgn ?_ ?_; kernel_rfl) | refine AtCall.now ?_); simp (config := { maxSteps := 1000000 }) only [SS, qg0, qgl, qgf, forall_const, Int.reduceEq, Int.reduceNeg, Nat.reduceGT, Nat.reduceLT, Nat.reduceLeDiff, Nat.reduceEqDiff, ↓reduceIte, reduceCtorEq, Int.reduceToNat, Int.reduceLE, Int.reduceLT, Nat.reduceAdd, Nat.reduceMul, ff_15]) | refine qqj rfl ?_ | refine qqk rfl ?_)
  (first | refine WK.retNil ⟨Or.inr rfl, _, rfl, ?_, ?_⟩ | refine WK.skipNil ⟨Or.inl rfl, _, rfl, ?_, ?_⟩)
  · exact hk2.keep
  · simp only [packed, fset_apply, Nat.reduceEqDiff, ↓reduceIte, List.getD_cons_zero, List.getD_cons_succ, ff_15]
    exact hv
theorem SR.take {H : Heap} {cs : List Value} {sets : List (List It)} (h : SR H cs sets) : SR H cs sets.dropLast := fun i hi => by
  have hi' : i < sets.length := by rw [List.length_dropLast] at hi; omega
  obtain ⟨pp, a, b⟩ := h i hi'
  rw [List.getElem_dropLast]
  exact ⟨pp, a, b⟩
set_option maxHeartbeats 4000000 in
theorem pop_gives {S H : Heap} {N o y x n : Nat} {pt pv pr pg pe pc : Option Addr} {g : Gram} {gd em : List Bool} {co : List Nat} {sets : List (List It)} {w : List Int} (st : Stat S N pr pg pe pc g gd em co) (hso : S o = .dead) (hw : WF n H) (hS : Sub S H) (hN : N ≤ n) (hoN : o < N)
    (hc : CHR H N o y x pt pv pr pg pe pc g gd em co sets w) (ha : sets.length ≤ 4000) (hsw : sets.length = w.length + 1) :
    GivesX Try.prog (fun z => z = o ∨ N ≤ z) 26 [.pointer (some ⟨o, 0, none⟩)] n H fun v _ H' => v = .bool (decide (w ≠ [])) ∧ RC (fun z => z = o ∨ z = y ∨ z = x) H H' ∧
      CHR H' N o y x pt pv pr pg pe pc g gd em co (if w = [] then sets else sets.dropLast) w.dropLast := by
  refine GivesX.of orders ok26 (Nat.le_of_ble_eq_true rfl) ?_
  obtain ⟨c, wv, cs, ho, hyN, hy, hyl, hsr, hwv⟩ := id hc
  have low : ∀ {z cs ty own}, H z = .cells cs ty own → z < n := fun {z cs ty own} e => Classical.byContradiction fun hc => by rw [hw z (by omega)] at e; cases e
  have hon := low ho
  have hyn := low hy
  have h00 : (((0 : Nat) : Int) = 0) = True := by simp
  rcases hwv with ⟨rfl, rfl⟩ | ⟨cw, cx, rfl, hxN, hx, hxl, hxt⟩
  · repeat (first | apply qqa | apply qqb | apply qqc | apply qqd | apply qqe | apply qqf | apply qqg | apply qqh | refine qqi rfl ?_ | ((first | (refine WK.rgn ?_ ?_; kernel_rfl) | refine AtCall.now ?_); simp (config := { maxSteps := 1000000 }) only [SS, qg0, qgb, qgl, qgs, qgf, qgx, forall_const, tor, Go.AM.splice, one, tlen2, Int.reduceEq, Int.reduceNeg, Nat.reduceGT, Nat.reduceLT, Nat.reduceLeDiff, Nat.reduceEqDiff, ↓reduceIte, reduceCtorEq, Int.reduceToNat, Int.reduceLE, Int.reduceLT, Nat.reduceAdd, Nat.reduceMul, ho, ch7, aop_nc, tnc, List.length_nil, h00, ff_26]) | refine qqj rfl ?_ | refine qqk rfl ?_)
    (first | refine WK.retNil ⟨Or.inr rfl, _, rfl, ?_, ?_⟩ | refine WK.skipNil ⟨Or.inl rfl, _, rfl, ?_, ?_⟩)
    · exact fun _ _ _ => rfl
    · simp only [packed, fset_apply, Nat.reduceEqDiff, ↓reduceIte, List.getD_cons_zero, List.getD_cons_succ, ff_26]
      exact ⟨by simp, .refl _ _, by simpa using hc⟩
  · by_cases h0 : w = []
    · subst h0
      repeat (first | apply qqa | apply qqb | apply qqc | apply qqd | apply qqe | apply qqf | apply qqg | apply qqh | refine qqi rfl ?_ | ((first | (refine WK.rgn ?_ ?_; kernel_rfl) | refine AtCall.now ?_); simp (config := { maxSteps := 1000000 }) only [SS, qg0, qgb, qgl, qgs, qgf, qgx, forall_const, tor, Go.AM.splice, one, tlen2, Int.reduceEq, Int.reduceNeg, Nat.reduceGT, Nat.reduceLT, Nat.reduceLeDiff, Nat.reduceEqDiff, ↓reduceIte, reduceCtorEq, Int.reduceToNat, Int.reduceLE, Int.reduceLT, Nat.reduceAdd, Nat.reduceMul, ho, ch7, aop_nc, tnc, List.length_nil, h00, ff_26]) | refine qqj rfl ?_ | refine qqk rfl ?_)
      (first | refine WK.retNil ⟨Or.inr rfl, _, rfl, ?_, ?_⟩ | refine WK.skipNil ⟨Or.inl rfl, _, rfl, ?_, ?_⟩)
      · exact fun _ _ _ => rfl
      · simp only [packed, fset_apply, Nat.reduceEqDiff, ↓reduceIte, List.getD_cons_zero, List.getD_cons_succ, ff_26]
        exact ⟨by simp, .refl _ _, by simpa using hc⟩
    · have hl0 : 0 < w.length := List.length_pos_iff.2 h0
      have hw0 : ((w.length : Int) = 0) = False := by simp; omega
      have hs1 : IntKind.wrap .i64 ((sets.length : Int) - 1) = ((sets.length - 1 : Nat) : Int) := by rw [wrap_in (by omega) (by omega)]; omega
      have hs2 : IntKind.wrap .i64 ((w.length : Int) - 1) = ((w.length - 1 : Nat) : Int) := by rw [wrap_in (by omega) (by omega)]; omega
      have hxo : x ≠ o := by omega
      have hxn := low hx
      have oE := hset_at H o (.cells (chC pt pv pr pg pe pc g gd em co (.slice (some ⟨y, 0, none⟩) (sets.length - 1) (sets.length - 1)) (.slice (some ⟨x, 0, none⟩) w.length cw)) 62 true)
      have kE := (Kx.refl (fun z => z = o ∨ N ≤ z) n H).set (x := o) (.cells (chC pt pv pr pg pe pc g gd em co (.slice (some ⟨y, 0, none⟩) (sets.length - 1) (sets.length - 1)) (.slice (some ⟨x, 0, none⟩) w.length cw)) 62 true) (.inl (.inl rfl)) hon
      have rE : RC (fun z => z = o ∨ z = y ∨ z = x) H _ := .setY (o := (.cells (chC pt pv pr pg pe pc g gd em co (.slice (some ⟨y, 0, none⟩) (sets.length - 1) (sets.length - 1)) (.slice (some ⟨x, 0, none⟩) w.length cw)) 62 true)) ho (.inl rfl)
      have nE := fun z (hz : z ≠ o) => hset_ne H o (.cells (chC pt pv pr pg pe pc g gd em co (.slice (some ⟨y, 0, none⟩) (sets.length - 1) (sets.length - 1)) (.slice (some ⟨x, 0, none⟩) w.length cw)) 62 true) hz
      generalize hE : hset H o (.cells (chC pt pv pr pg pe pc g gd em co (.slice (some ⟨y, 0, none⟩) (sets.length - 1) (sets.length - 1)) (.slice (some ⟨x, 0, none⟩) w.length cw)) 62 true) = HE at *
      have chl7 : ∀ v w, 7 ≤ (chC pt pv pr pg pe pc g gd em co v w).length := fun v w => by rw [chl]; omega
      have chl8 : ∀ v w, 8 ≤ (chC pt pv pr pg pe pc g gd em co v w).length := fun v w => Nat.le_of_eq chl.symm
      repeat (first | apply qqa | apply qqb | apply qqc | apply qqd | apply qqe | apply qqf | apply qqg | apply qqh | refine qqi rfl ?_)
      (refine WK.rgn ?_ ?_; kernel_rfl; simp (config := { maxSteps := 1000000 }) only [SS, qg0, qgb, qgl, qgs, qgf, qgx, forall_const, tor, Go.AM.splice, one, tlen2, Int.reduceEq, Int.reduceNeg, Nat.reduceGT, Nat.reduceLT, Nat.reduceLeDiff, Nat.reduceEqDiff, ↓reduceIte, reduceCtorEq, Int.reduceToNat, Int.reduceLE, Int.reduceLT, Nat.reduceAdd, Nat.reduceMul, ff_26])
      repeat (first | apply qqa | apply qqb | apply qqc | apply qqd | apply qqe | apply qqf | apply qqg | apply qqh | refine qqi rfl ?_)
      (refine WK.rgn ?_ ?_; kernel_rfl; simp (config := { maxSteps := 1000000 }) only [SS, qg0, qgb, qgl, qgs, qgf, qgx, forall_const, tor, Go.AM.splice, one, tlen2, Int.reduceEq, Int.reduceNeg, Nat.reduceGT, Nat.reduceLT, Nat.reduceLeDiff, Nat.reduceEqDiff, ↓reduceIte, reduceCtorEq, Int.reduceToNat, Int.reduceLE, Int.reduceLT, Nat.reduceAdd, Nat.reduceMul, ho, ch7, aop_nc, tnc, hw0, ff_26])
      repeat (first | apply qqa | apply qqb | apply qqc | apply qqd | apply qqe | apply qqf | apply qqg | apply qqh | refine qqi rfl ?_)
      first | refine qqj rfl ?_ | refine qqk rfl ?_
      repeat (first | apply qqa | apply qqb | apply qqc | apply qqd | apply qqe | apply qqf | apply qqg | apply qqh | refine qqi rfl ?_)
      have hz1 : isz Try.prog 69 = some 2 := by kernel_rfl
      have hz2 : isz Try.prog 3 = some 1 := by kernel_rfl
      have oF := hset_at HE o (.cells (chC pt pv pr pg pe pc g gd em co (.slice (some ⟨y, 0, none⟩) (sets.length - 1) (sets.length - 1)) (.slice (some ⟨x, 0, none⟩) (w.length - 1) (w.length - 1))) 62 true)
      have kF := kE.set (x := o) (.cells (chC pt pv pr pg pe pc g gd em co (.slice (some ⟨y, 0, none⟩) (sets.length - 1) (sets.length - 1)) (.slice (some ⟨x, 0, none⟩) (w.length - 1) (w.length - 1))) 62 true) (.inl (.inl rfl)) hon
      have rF := rE.trans (.setY (o := (.cells (chC pt pv pr pg pe pc g gd em co (.slice (some ⟨y, 0, none⟩) (sets.length - 1) (sets.length - 1)) (.slice (some ⟨x, 0, none⟩) (w.length - 1) (w.length - 1))) 62 true)) oE (.inl rfl))
      have nF := fun z (hz : z ≠ o) => hset_ne HE o (.cells (chC pt pv pr pg pe pc g gd em co (.slice (some ⟨y, 0, none⟩) (sets.length - 1) (sets.length - 1)) (.slice (some ⟨x, 0, none⟩) (w.length - 1) (w.length - 1))) 62 true) hz
      generalize hF : hset HE o (.cells (chC pt pv pr pg pe pc g gd em co (.slice (some ⟨y, 0, none⟩) (sets.length - 1) (sets.length - 1)) (.slice (some ⟨x, 0, none⟩) (w.length - 1) (w.length - 1))) 62 true) = HF at *
      (refine WK.rgl [(21, 26), (23, 26)] (by kernel_rfl) ?_; simp (config := { maxSteps := 1000000 }) only [wl, wl1_false, wl1_true, wl2_none, wl2_some, wl3_some, wl3_none, SS, forall_const, wx, tguard, acallee, top, tval, fput, tor, vsh, vbin, tload, tload2, tload3, tstore, tstore2, tstore3, Go.AM.splice, one, tfa, tfa2, tlen2, tsl, tsl2, tsl3, tsl4, tsl5, Go.AM.bound, Int.reduceEq, Int.reduceNeg, Nat.reduceGT, Nat.reduceLT, Nat.reduceLeDiff, Nat.reduceEqDiff, ↓reduceIte, reduceCtorEq, Int.reduceToNat, Int.reduceLE, Int.reduceLT, Nat.reduceAdd, Nat.reduceMul, hz1, hz2, Nat.sub_le, and_self, implies_true, hF, ho, ch6, ch7, aop_nc, tnc, hs1, hs2, hy, hx, hE, oE, chl7, chl8, chs6, chs7, Nat.zero_mul, Nat.add_zero, Nat.sub_zero, Nat.zero_le, ff_26])
      refine ⟨light_cons rfl rfl (lapart_rw (by simp)) (light_cons rfl rfl (lapart_rw (by simp; omega)) light_nil), ?_⟩
      repeat (first | apply qqa | apply qqb | apply qqc | apply qqd | apply qqe | apply qqf | apply qqg | apply qqh | refine qqi rfl ?_ | ((first | (refine WK.rgn ?_ ?_; kernel_rfl) | refine AtCall.now ?_); simp (config := { maxSteps := 1000000 }) only [SS, qg0, qgb, qgl, qgs, qgf, qgx, forall_const, tor, Go.AM.splice, one, tlen2, Int.reduceEq, Int.reduceNeg, Nat.reduceGT, Nat.reduceLT, Nat.reduceLeDiff, Nat.reduceEqDiff, ↓reduceIte, reduceCtorEq, Int.reduceToNat, Int.reduceLE, Int.reduceLT, Nat.reduceAdd, Nat.reduceMul, ff_26]) | refine qqj rfl ?_ | refine qqk rfl ?_)
      (first | refine WK.retNil ⟨Or.inr rfl, _, rfl, ?_, ?_⟩ | refine WK.skipNil ⟨Or.inl rfl, _, rfl, ?_, ?_⟩)
      · exact kF.keep
      · simp only [packed, fset_apply, Nat.reduceEqDiff, ↓reduceIte, List.getD_cons_zero, List.getD_cons_succ, ff_26]
        have hdl : sets.dropLast.length = sets.length - 1 := List.length_dropLast
        have hdw : w.dropLast.length = w.length - 1 := List.length_dropLast
        rw [if_neg h0]
        refine ⟨by simp [h0], rF, sets.length - 1, .slice (some ⟨x, 0, none⟩) (w.length - 1) (w.length - 1), cs, ?_, hyN, (nF y (by omega)).trans ((nE y (by omega)).trans hy), by omega, fun i hi => ?_, .inr ⟨w.length - 1, cx, by rw [hdw], hxN, (nF x hxo).trans ((nE x hxo).trans hx), by omega, ?_⟩⟩
        · rw [hdl]; exact oF
        · obtain ⟨pp, a, b⟩ := hsr.take i hi
          exact ⟨pp, a, b.rk rF.1⟩
        · rw [hdw, List.dropLast_eq_take, List.map_take, ← hxt, List.take_take]
          congr 1
          omega
end Go.Proofs.Ytpdlmpbhohinpaa

namespace Go.Proofs.Ytpdlmpbhohinpaa
open Go.AM
set_option maxRecDepth 100000
def tabOK (T : ByteArray) (L : Nat → Nat) (N : Nat) : Bool := (List.range N).all fun i => match T[i]? with
  | some b => b.toNat == L i
  | none => false
theorem w3_tab {k : Fr → Nat → Heap → Prop} {f : Fr} {d : Option Nat} {n : Nat} {H : Heap} {T : ByteArray} (L : Nat → Nat) (N : Nat) (i : Nat) (hT : tabOK T L N = true) (hi : i < N) (h : w3 k f d n H (some { v := .int .u8 (L i : Nat) })) :
    w3 k f d n H (tix2 (T[i]?)) := by
  unfold tabOK at hT
  have := List.all_eq_true.1 hT i (by simpa using hi)
  split at this
  · rename_i b hb
    rw [hb]
    have e : b.toNat = L i := by simpa using this
    show w3 k f d n H (some { v := .int .u8 (b.toNat : Nat) })
    rw [e]; exact h
  · cases this
def lenN (x : Nat) : Nat := if x = 0 then 0 else x.log2 + 1
theorem lenN_small : ∀ x, x < 256 → lenN x ≤ 8 := by
  intro x h
  by_cases h0 : x = 0
  · subst h0; unfold lenN; simp
  · have := (Nat.log2_lt h0).2 (show x < 2 ^ 8 by omega)
    unfold lenN; rw [if_neg h0]; omega
theorem wrap_u8n (x : Nat) (h : x < 256) : IntKind.u8.wrap (x : Int) = (x : Int) := by rw [wrap_u8]; omega
theorem lens_gives (x : Nat) (hx : x < 256) (n : Nat) (H : Heap) : Gives Try.prog 90 [.int .u64 x] n H fun v n' H' => (∃ k : Nat, v = .int .i64 (k : Nat)) ∧ n' = n ∧ H' = H := by
  refine Gives.of orders ok90 (Nat.le_of_ble_eq_true rfl) ?_
  have min32 : min 32 IntKind.u64.bits = 32 := rfl
  have min16 : min 16 IntKind.u64.bits = 16 := rfl
  have min8 : min 8 IntKind.u64.bits = 8 := rfl
  have h0i : ((4294967296 : Int) ≤ ((x : Nat) : Int)) = False := by simp only [eq_iff_iff, iff_false]; omega
  have h1i : ((65536 : Int) ≤ ((x : Nat) : Int)) = False := by simp only [eq_iff_iff, iff_false]; omega
  have h2i : ((256 : Int) ≤ ((x : Nat) : Int)) = False := by simp only [eq_iff_iff, iff_false]; omega
  have h0 : ¬ 4294967296 ≤ x := by omega
  have h1 : ¬ 65536 ≤ x := by omega
  have h2 : ¬ 256 ≤ x := by omega
  repeat (first | apply qqa | apply qqb | apply qqc | apply qqd | apply qqe | apply qqf | apply qqg | apply qqh | refine qqi rfl ?_ | ((first | (refine WK.rgn ?_ ?_; kernel_rfl) | refine AtCall.now ?_); simp (config := { maxSteps := 1000000 }) only [SS, qg0, qgb, qgy, forall_const, tor, vconv, Int.reduceEq, Int.reduceNeg, Nat.reduceGT, Nat.reduceLT, Nat.reduceLeDiff, Nat.reduceEqDiff, ↓reduceIte, reduceCtorEq, Int.reduceToNat, Int.reduceLE, Int.reduceLT, Nat.reduceAdd, Nat.reduceMul, min32, min16, min8, h0i, h0, h1i, h1, h2i, h2, ff_90]) | refine qqj rfl ?_ | refine qqk rfl ?_)
  have hw8 := wrap_u8n x (by omega)
  simp only [hw8, Int.toNat_natCast]
  refine w3_tab lenN 256 _ (by kernel_rfl) (by omega) ?_
  have hb := lenN_small x hx
  have hwl : IntKind.wrap .i64 ((lenN x : Nat) : Int) = ((lenN x : Nat) : Int) := by rw [wrap_in (by omega) (by omega)]
  have hww : IntKind.wrap .i64 (0 + ((lenN x : Nat) : Int)) = ((lenN x : Nat) : Int) := by rw [wrap_in (by omega) (by omega)]; omega
  have hww' : IntKind.wrap .i64 (((0 : Nat) : Int) + ((lenN x : Nat) : Int)) = ((lenN x : Nat) : Int) := by rw [wrap_in (by omega) (by omega)]; omega
  simp (config := { maxSteps := 1000000 }) only [SS, qg0, qgb, qgy, forall_const, tor, vconv, Int.reduceEq, Int.reduceNeg, Nat.reduceGT, Nat.reduceLT, Nat.reduceLeDiff, Nat.reduceEqDiff, ↓reduceIte, reduceCtorEq, Int.reduceToNat, Int.reduceLE, Int.reduceLT, Nat.reduceAdd, Nat.reduceMul, hwl, hww, hww', ff_90]
  repeat (first | apply qqa | apply qqb | apply qqc | apply qqd | apply qqe | apply qqf | apply qqg | apply qqh | refine qqi rfl ?_ | ((first | (refine WK.rgn ?_ ?_; kernel_rfl) | refine AtCall.now ?_); simp (config := { maxSteps := 1000000 }) only [SS, qg0, qgb, qgy, forall_const, tor, vconv, Int.reduceEq, Int.reduceNeg, Nat.reduceGT, Nat.reduceLT, Nat.reduceLeDiff, Nat.reduceEqDiff, ↓reduceIte, reduceCtorEq, Int.reduceToNat, Int.reduceLE, Int.reduceLT, Nat.reduceAdd, Nat.reduceMul, hwl, hww, hww', ff_90]) | refine qqj rfl ?_ | refine qqk rfl ?_)
  (first | refine WK.retNil ⟨Or.inr rfl, _, rfl, ?_, ?_⟩ | refine WK.skipNil ⟨Or.inl rfl, _, rfl, ?_, ?_⟩)
  · exact fun _ _ => rfl
  · simp only [packed, fset_apply, Nat.reduceEqDiff, ↓reduceIte, List.getD_cons_zero, List.getD_cons_succ, ff_90]
    exact ⟨⟨_, rfl⟩, trivial, trivial⟩
theorem blen_gives (x : Nat) (hx : x < 256) (n : Nat) (H : Heap) : Gives Try.prog 70 [.int .u64 x] n H fun v n' H' => (∃ k : Nat, v = .int .i64 (k : Nat)) ∧ n' = n ∧ H' = H := by
  refine Gives.of orders ok70 (Nat.le_of_ble_eq_true rfl) ?_
  repeat (first | apply qqa | apply qqb | apply qqc | apply qqd | apply qqe | apply qqf | apply qqg | apply qqh | refine qqi rfl ?_ | ((first | (refine WK.rgn ?_ ?_; kernel_rfl) | refine AtCall.now ?_); simp (config := { maxSteps := 1000000 }) only [SS, qg0, forall_const, tor, vconv, Int.reduceEq, Int.reduceNeg, Nat.reduceGT, Nat.reduceLT, Nat.reduceLeDiff, Nat.reduceEqDiff, ↓reduceIte, reduceCtorEq, Int.reduceToNat, Int.reduceLE, Int.reduceLT, Nat.reduceAdd, Nat.reduceMul, ff_70]) | refine qqj rfl ?_ | refine qqk rfl ?_)
  refine AtCall.by (lens_gives x hx _ _) ?_
  rintro v n' H' hk' ⟨⟨k, rfl⟩, rfl, rfl⟩
  simp (config := { maxSteps := 1000000 }) only [SS, qg0, forall_const, tor, vconv, Int.reduceEq, Int.reduceNeg, Nat.reduceGT, Nat.reduceLT, Nat.reduceLeDiff, Nat.reduceEqDiff, ↓reduceIte, reduceCtorEq, Int.reduceToNat, Int.reduceLE, Int.reduceLT, Nat.reduceAdd, Nat.reduceMul, ff_70]
  repeat (first | apply qqa | apply qqb | apply qqc | apply qqd | apply qqe | apply qqf | apply qqg | apply qqh | refine qqi rfl ?_ | ((first | (refine WK.rgn ?_ ?_; kernel_rfl) | refine AtCall.now ?_); simp (config := { maxSteps := 1000000 }) only [SS, qg0, forall_const, tor, vconv, Int.reduceEq, Int.reduceNeg, Nat.reduceGT, Nat.reduceLT, Nat.reduceLeDiff, Nat.reduceEqDiff, ↓reduceIte, reduceCtorEq, Int.reduceToNat, Int.reduceLE, Int.reduceLT, Nat.reduceAdd, Nat.reduceMul, ff_70]) | refine qqj rfl ?_ | refine qqk rfl ?_)
  (first | refine WK.retNil ⟨Or.inr rfl, _, rfl, ?_, ?_⟩ | refine WK.skipNil ⟨Or.inl rfl, _, rfl, ?_, ?_⟩)
  · exact fun _ _ => rfl
  · simp only [packed, fset_apply, Nat.reduceEqDiff, ↓reduceIte, List.getD_cons_zero, List.getD_cons_succ, ff_70]
    exact ⟨⟨_, rfl⟩, trivial, trivial⟩
end Go.Proofs.Ytpdlmpbhohinpaa
