/- A part of a proof. Its conditions: none. -/
import Derived.Test.YtpdlmpbhohinpaaAmCChRep
set_option linter.all false
namespace Go.Proofs.Ytpdlmpbhohinpaa
open Go.AM Go.RowKit
set_option maxRecDepth 100000
theorem set_self {cs : List Value} {k : Nat} {v : Value} (h : cs[k]? = some v) : cs.set k v = cs := by
  apply List.ext_getElem?
  intro i
  rw [List.getElem?_set]
  by_cases hi : k = i
  · subst hi
    rw [if_pos rfl, h]
    obtain ⟨h1, _⟩ := List.getElem?_eq_some_iff.1 h
    simp [h1]
  · rw [if_neg hi]
set_option maxHeartbeats 4000000 in
theorem add_gives {N y k n : Nat} {H : Heap} {cs : List Value} {l : List It} {x : It} (hw : WF n H) (hN : N ≤ n) (hyN : N ≤ y) (hy : H y = .cells cs 69 true) (hs : SC H N cs k l) (hx : smI x) (hl : l.length ≤ 900000) :
    GivesX Try.prog (fun z => N ≤ z) 45 [.pointer (some ⟨y, k, none⟩), itV x] n H fun _ _ H' => RC (· = y) H H' ∧ ∃ v', H' y = .cells (cs.set k v') 69 true ∧ SC H' N (cs.set k v') k (addI l x) := by
  obtain ⟨v, m, hk0, hk1, hmN, hm, hv⟩ := hs
  have low : ∀ {z o}, H z = o → o ≠ .dead → z < n := fun {z o} e ho => by
    apply Classical.byContradiction
    intro hc
    rw [hw z (by omega)] at e; exact ho e.symm
  have hyn := low hy (by intro h; cases h)
  have hmn := low hm (by unfold MO; intro h; cases h)
  refine GivesX.of orders ok45 (Nat.le_of_ble_eq_true rfl) ?_
  have hk := Kp.new n H (.cells (itC x) 74 true)
  have hb := hset_at H n (.cells (itC x) 74 true)
  have hrk := rc_kp (P := (· = y)) hk hw
  repeat (first | apply qqa | apply qqb | apply qqc | apply qqd | apply qqe | apply qqf | apply qqg | apply qqh | refine qqi rfl ?_)
  have hvc : vcells (itV x) = itC x := rfl
  have hone : (itC x).all one = true := rfl
  have htk : ((itC x).drop 0).take 3 = itC x := rfl
  have hag : Value.agg (itC x).toArray = itV x := rfl
  have h03 : (3 : Nat) ≤ (itC x).length := Nat.le_refl _
  (refine WK.rgn ?_ ?_; kernel_rfl; simp (config := { maxSteps := 1000000 }) only [SS, qg0, qgl, qgs, qgf, qgz, qge, forall_const, vun, Go.AM.splice, one, tbox, Int.reduceEq, Int.reduceNeg, Nat.reduceGT, Nat.reduceLT, Nat.reduceLeDiff, Nat.reduceEqDiff, ↓reduceIte, reduceCtorEq, Int.reduceToNat, Int.reduceLE, Int.reduceLT, Nat.reduceAdd, Nat.reduceMul, hvc, hone, ff_45])
  have hy1 := (hk.keep y hyn).trans hy
  have hm1 := (hk.keep m hmn).trans hm
  have hw1 := hk.wf hw
  replace hv : LV (hset H n (.cells (itC x) 74 true)) N v l := by
    rcases hv with h | ⟨h0, z, h1, h2, h3⟩
    · exact .inl h
    · exact .inr ⟨h0, z, h1, h2, (hk.keep z (low h3 (by intro h; cases h))).trans h3⟩
  generalize hset H n (.cells (itC x) 74 true) = H1 at *
  have hlk := look_it hm1 hx
  have k1c : k + 1 + 1 ≤ cs.length := (List.getElem?_eq_some_iff.1 hk1).1
  have k0c : k + 1 ≤ cs.length := by omega
  by_cases hin : x ∈ l
  · repeat (first | apply qqa | apply qqb | apply qqc | apply qqd | apply qqe | apply qqf | apply qqg | apply qqh | refine qqi rfl ?_ | ((first | (refine WK.rgn ?_ ?_; kernel_rfl) | refine AtCall.now ?_); simp (config := { maxSteps := 1000000 }) only [SS, qg0, qgl, qgs, qgf, qgz, qge, forall_const, vun, Go.AM.splice, one, tbox, Int.reduceEq, Int.reduceNeg, Nat.reduceGT, Nat.reduceLT, Nat.reduceLeDiff, Nat.reduceEqDiff, ↓reduceIte, reduceCtorEq, Int.reduceToNat, Int.reduceLE, Int.reduceLT, Nat.reduceAdd, Nat.reduceMul, hb, hy1, hk1, hk0, htk, hag, h03, aop_nc, tnc, aop_look, aop_mapset, hlk, hin, k1c, ff_45]) | refine qqj rfl ?_ | refine qqk rfl ?_)
    (first | refine WK.retNil ⟨Or.inr rfl, _, rfl, ?_, ?_⟩ | refine WK.skipNil ⟨Or.inl rfl, _, rfl, ?_, ?_⟩)
    · exact fun z hz _ => hk.keep z hz
    · refine ⟨hrk, v, ?_, ?_⟩
      · rw [set_self hk0]; exact hy1
      · rw [set_self hk0]
        unfold addI
        rw [if_pos hin]
        exact ⟨v, m, hk0, hk1, hmN, hm1, hv⟩
  · have hst := set_it hm1 hx hin
    have hym : y ≠ m := by rintro rfl; rw [hy1] at hm1; unfold MO at hm1; cases hm1
    have hnm : n ≠ m := by omega
    have hm2 := hset_at H1 m (MO (l ++ [x]))
    have hy2 := (hset_ne H1 m (MO (l ++ [x])) hym).trans hy1
    have hb2 := (hset_ne H1 m (MO (l ++ [x])) hnm).trans hb
    have kx2 : Kx (fun z => N ≤ z) n H (n + 1) (hset H1 m (MO (l ++ [x]))) := hk.kx.set _ (.inl hmN) (by omega)
    have hw2 := kx2.wf hw
    have hrk2 : RC (· = y) H (hset H1 m (MO (l ++ [x]))) := hrk.trans (.setM hm1)
    have hv2 : LV (hset H1 m (MO (l ++ [x]))) N v l := by
      rcases hv with h | ⟨h0, z, h1, h2, h3⟩
      · exact .inl h
      · exact .inr ⟨h0, z, h1, h2, (hset_ne _ _ _ (by rintro rfl; rw [hm1] at h3; unfold MO at h3; cases h3)).trans h3⟩
    repeat (first | apply qqa | apply qqb | apply qqc | apply qqd | apply qqe | apply qqf | apply qqg | apply qqh | refine qqi rfl ?_ | ((first | (refine WK.rgn ?_ ?_; kernel_rfl) | refine AtCall.now ?_); simp (config := { maxSteps := 1000000 }) only [SS, qg0, qgl, qgs, qgf, qgz, qge, forall_const, vun, Go.AM.splice, one, tbox, Int.reduceEq, Int.reduceNeg, Nat.reduceGT, Nat.reduceLT, Nat.reduceLeDiff, Nat.reduceEqDiff, ↓reduceIte, reduceCtorEq, Int.reduceToNat, Int.reduceLE, Int.reduceLT, Nat.reduceAdd, Nat.reduceMul, hb, hy1, hk1, hk0, htk, hag, h03, aop_nc, tnc, aop_look, aop_mapset, hlk, hin, k1c, hst, ff_45]) | refine qqj rfl ?_ | refine qqk rfl ?_)
    generalize hset H1 m (MO (l ++ [x])) = H2 at *
    have hsp : Go.AM.splice [Value.int IntKind.i64 (Int.ofNat 0), Value.int IntKind.i64 (Int.ofNat 0), Value.int IntKind.i64 (Int.ofNat 0)] 0 (itC x) = itC x := rfl
    have hlen3 : (itC x).length = 3 := rfl
    have hb3 := hset_at H2 (n + 1) (.cells (itC x) 74 true)
    have hyn1 : y ≠ n + 1 := by omega
    have hmn1 : m ≠ n + 1 := by omega
    have hy3 := (hset_ne H2 (n + 1) (.cells (itC x) 74 true) hyn1).trans hy2
    have hm3 := (hset_ne H2 (n + 1) (.cells (itC x) 74 true) hmn1).trans hm2
    have k3 := Kp.new (n + 1) H2 (.cells (itC x) 74 true)
    have kx3 := kx2.trans k3.kx
    have hrk3 := hrk2.trans (rc_kp k3 hw2)
    have hw3 := k3.wf hw2
    have hadd : addI l x = l ++ [x] := by unfold addI; rw [if_neg hin]
    have hset0 : ∀ v', (cs.set k v')[k]? = some v' := fun v' => by rw [List.getElem?_set]; simp; omega
    have hset1 : ∀ v', (cs.set k v')[k + 1]? = some (.map (some m)) := fun v' => by rw [List.getElem?_set, if_neg (by omega)]; exact hk1
    rcases hv2 with ⟨rfl, rfl⟩ | ⟨h0, z, rfl, hzN, hz⟩
    · have hg := grow_nil (P := Try.prog) (n := n + 1 + 1) (ts := #[67, 67]) (eapp_67_67) hb3 rfl
      generalize hE : hset H2 (n + 1) (.cells (itC x) 74 true) = H3 at *
      have hy4 : hset H3 (n + 1 + 1) (.rows (itC x) 74 true) y = _ := (hset_ne _ _ _ (by omega)).trans hy3
      have hm4 : hset H3 (n + 1 + 1) (.rows (itC x) 74 true) m = _ := (hset_ne _ _ _ (by omega)).trans hm3
      have hz4 := hset_at H3 (n + 1 + 1) (.rows (itC x) 74 true)
      have k4 := Kp.new (n + 1 + 1) H3 (.rows (itC x) 74 true)
      have kx4 := kx3.trans k4.kx
      have hrk4 := hrk3.trans (rc_kp k4 hw3)
      simp (config := { maxSteps := 1000000 }) only [SS, qg0, qgl, qgs, qgf, qgz, qge, forall_const, vun, Go.AM.splice, one, tbox, Int.reduceEq, Int.reduceNeg, Nat.reduceGT, Nat.reduceLT, Nat.reduceLeDiff, Nat.reduceEqDiff, ↓reduceIte, reduceCtorEq, Int.reduceToNat, Int.reduceLE, Int.reduceLT, Nat.reduceAdd, Nat.reduceMul, hy2, hk0, hb2, htk, hag, h03, hvc, hone, hsp, hlen3, hE, hg, aop_nc, tnc, hy3, hy4, k0c, ff_45]
      generalize hset H3 (n + 1 + 1) (.rows (itC x) 74 true) = H4 at *
      (first | refine WK.retNil ⟨Or.inr rfl, _, rfl, ?_, ?_⟩ | refine WK.skipNil ⟨Or.inl rfl, _, rfl, ?_, ?_⟩)
      · intro z hz hzN
        exact (kx4.set _ (.inl hyN) (by omega)).keep z hz hzN
      · refine ⟨hrk4.trans (.setY hy4 rfl), _, hset_at _ _ _, ?_⟩
        rw [hadd]
        refine ⟨_, m, hset0 _, hset1 _, hmN, (hset_ne _ _ _ (Ne.symm hym)).trans hm4, .inr ⟨by simp, n + 1 + 1, rfl, by omega, (hset_ne _ _ _ (by omega)).trans (hz4.trans (by simp))⟩⟩
    · have hlz : l.length * 3 = (l.flatMap itC).length := (itcs_len l).symm
      have hl0 : l.length ≠ 0 := fun h => h0 (List.length_eq_zero_iff.1 h)
      have hzn : z < n + 1 := Classical.byContradiction fun hc => by rw [hw2 z (by omega)] at hz; cases hz
      have hz3 := (hset_ne H2 (n + 1) (.cells (itC x) 74 true) (x := z) (by omega)).trans hz
      have hg := grow_some (P := Try.prog) (n := n + 1 + 1) (ts := #[67, 67]) (c := l.length) (eapp_67_67) hb3 rfl hz3 hlz hl0 (by unfold bigN; omega)
      generalize hE : hset H2 (n + 1) (.cells (itC x) 74 true) = H3 at *
      have hzy : y ≠ z := by rintro rfl; rw [hy2] at hz; cases hz
      have hzm : m ≠ z := by rintro rfl; rw [hm2] at hz; unfold MO at hz; cases hz
      have hy5 := (hset_ne H3 z (.rows (l.flatMap itC) 74 false) hzy).trans hy3
      have hm5 := (hset_ne H3 z (.rows (l.flatMap itC) 74 false) hzm).trans hm3
      have kx5 := kx3.set (.rows (l.flatMap itC) 74 false) (x := z) (.inl hzN) (by omega)
      have hrk5 := hrk3.trans (RC.own hz3 (own' := false))
      have hw5 := kx5.wf hw
      generalize hE2 : hset H3 z (.rows (l.flatMap itC) 74 false) = H5 at *
      have hy4 : hset H5 (n + 1 + 1) (.rows (l.flatMap itC ++ itC x) 74 true) y = _ := (hset_ne _ _ _ (by omega)).trans hy5
      have hm4 : hset H5 (n + 1 + 1) (.rows (l.flatMap itC ++ itC x) 74 true) m = _ := (hset_ne _ _ _ (by omega)).trans hm5
      have hz4 := hset_at H5 (n + 1 + 1) (.rows (l.flatMap itC ++ itC x) 74 true)
      have k4 := Kp.new (n + 1 + 1) H5 (.rows (l.flatMap itC ++ itC x) 74 true)
      have kx4 := kx5.trans k4.kx
      have hrk4 := hrk5.trans (rc_kp k4 hw5)
      simp (config := { maxSteps := 1000000 }) only [SS, qg0, qgl, qgs, qgf, qgz, qge, forall_const, vun, Go.AM.splice, one, tbox, Int.reduceEq, Int.reduceNeg, Nat.reduceGT, Nat.reduceLT, Nat.reduceLeDiff, Nat.reduceEqDiff, ↓reduceIte, reduceCtorEq, Int.reduceToNat, Int.reduceLE, Int.reduceLT, Nat.reduceAdd, Nat.reduceMul, hy2, hk0, hb2, htk, hag, h03, hvc, hone, hsp, hlen3, hE, hg, hE2, aop_nc, tnc, hy3, hy4, k0c, ff_45]
      generalize hset H5 (n + 1 + 1) (.rows (l.flatMap itC ++ itC x) 74 true) = H4 at *
      (first | refine WK.retNil ⟨Or.inr rfl, _, rfl, ?_, ?_⟩ | refine WK.skipNil ⟨Or.inl rfl, _, rfl, ?_, ?_⟩)
      · intro z hz hzN
        exact (kx4.set _ (.inl hyN) (by omega)).keep z hz hzN
      · refine ⟨hrk4.trans (.setY hy4 rfl), _, hset_at _ _ _, ?_⟩
        rw [hadd]
        refine ⟨_, m, hset0 _, hset1 _, hmN, (hset_ne _ _ _ (Ne.symm hym)).trans hm4, .inr ⟨by simp, n + 1 + 1, by simp, by omega, (hset_ne _ _ _ (by omega)).trans (hz4.trans (by simp))⟩⟩
end Go.Proofs.Ytpdlmpbhohinpaa
