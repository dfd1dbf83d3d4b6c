/- A part of a proof. Its conditions: none. -/
import Derived.Test.YtpdlmpbhohinpaaAmCChAdd
import Derived.Test.YtpdlmpbhohinpaaAmCSrch
set_option linter.all false
namespace Go.Proofs.Ytpdlmpbhohinpaa
open Go.AM Go.RowKit
set_option maxRecDepth 100000
def Grown (N y k : Nat) (cs : List Value) (H H' : Heap) (l : List It) : Prop := RC (· = y) H H' ∧ ∃ v', H' y = .cells (cs.set k v') 69 true ∧ SC H' N (cs.set k v') k l
theorem Grown.refl {N y k : Nat} {cs : List Value} {H : Heap} {l : List It} (hy : H y = .cells cs 69 true) (hs : SC H N cs k l) : Grown N y k cs H H l := by
  have hs' := hs
  obtain ⟨v, m, h0, _⟩ := hs'
  exact ⟨.refl _ H, v, by rw [set_self h0]; exact hy, by rw [set_self h0]; exact hs⟩
theorem Grown.trans {N y k : Nat} {cs : List Value} {H H1 H2 : Heap} {l l2 : List It} (a : Grown N y k cs H H1 l) (b : ∀ cs1, H1 y = .cells cs1 69 true → SC H1 N cs1 k l → Grown N y k cs1 H1 H2 l2) : Grown N y k cs H H2 l2 := by
  obtain ⟨r1, v1, h1, s1⟩ := a
  obtain ⟨r2, v2, h2, s2⟩ := b _ h1 s1
  rw [List.set_set] at h2 s2
  exact ⟨r1.trans r2, v2, h2, s2⟩
theorem add_grown {N y k n : Nat} {H0 H : Heap} {cs : List Value} {l : List It} {x : It} (hw : WF n H) (hN : N ≤ n) (hyN : N ≤ y) (hg : Grown N y k cs H0 H l) (hx : smI x) (hl : l.length ≤ 900000) :
    GivesX Try.prog (fun z => N ≤ z) 45 [.pointer (some ⟨y, k, none⟩), itV x] n H fun _ _ H' => RC (· = y) H H' ∧ Grown N y k cs H0 H' (addI l x) := by
  have hg' := hg
  obtain ⟨r1, v1, h1, s1⟩ := hg'
  obtain ⟨v, n', H', a, b, c⟩ := add_gives hw hN hyN h1 s1 hx hl
  refine ⟨v, n', H', a, b, c.1, hg.trans fun cs1 h2 _ => ?_⟩
  rw [h1] at h2
  cases h2
  exact c
theorem small_okL {g : Gram} {at_ : Nat} {l : List It} (h : okL g at_ l) (hr : g.rules.length ≤ 24) (h8 : ∀ r ∈ g.rules, r.right.length ≤ 8) (ha : at_ ≤ 4000) : l.length ≤ 900000 := by
  have h1 := h.len
  have h2 := bndI_le (at_ := at_) hr h8
  omega
set_option maxHeartbeats 8000000 in
theorem cbegin_gives {S H0 H : Heap} {N o n y k at_ : Nat} {pt pv pr pg pe pc : Option Addr} {g : Gram} {gd em : List Bool} {co : List Nat} {sv wv : Value} {cs : List Value} {l : List It} {v : Int} (st : Stat S N pr pg pe pc g gd em co) (hw : WF n H) (hS : Sub S H) (hN : N ≤ n) (hoN : o < N) (hyN : N ≤ y)
    (ho : H o = .cells (chC pt pv pr pg pe pc g gd em co sv wv) 62 true) (hg : Grown N y k cs H0 H l) (hl : okL g at_ l) (ha : at_ ≤ 4000) :
    GivesX Try.prog (fun z => N ≤ z) 42 [.pointer (some ⟨o, 0, none⟩), .pointer (some ⟨y, k, none⟩), .int .i64 v, .int .i64 (at_ : Nat)] n H fun _ _ H' => RC (· = y) H H' ∧ Grown N y k cs H0 H' (beginL g gd v at_ l) := by
  refine GivesX.of orders ok42 (Nat.le_of_ble_eq_true rfl) ?_
  repeat (first | apply qqa | apply qqb | apply qqc | apply qqd | apply qqe | apply qqf | apply qqg | apply qqh | refine qqi rfl ?_)
  have c83 : 3 ≤ (chC pt pv pr pg pe pc g gd em co sv wv).length := by rw [chl]; omega
  repeat (first | apply qqa | apply qqb | apply qqc | apply qqd | apply qqe | apply qqf | apply qqg | apply qqh | refine qqi rfl ?_ | ((first | (refine WK.rgn ?_ ?_; kernel_rfl) | refine AtCall.now ?_); simp (config := { maxSteps := 1000000 }) only [SS, qg0, qgb, qgl, qgi, qgf, forall_const, tor, textr, tbuild, afill, Go.AM.splice, one, Int.reduceEq, Int.reduceNeg, Nat.reduceGT, Nat.reduceLT, Nat.reduceLeDiff, Nat.reduceEqDiff, ↓reduceIte, reduceCtorEq, Int.reduceToNat, Int.reduceLE, Int.reduceLT, Nat.reduceAdd, Nat.reduceMul, ho, chg, c83, aop_nc, tnc, ff_42]) | refine qqj rfl ?_ | refine qqk rfl ?_)
  refine AtCall.by (rules_gives (pt := pt) (pv := pv) (v := v) hw (st.rr.sub hS) st.rl st.up) ?_
  rintro w n1 H1 hk1 ⟨a, b, rfl, hab, hb, ea, eb, ec⟩
  have hrl := st.rl
  have hon : o < n := by omega
  have hyn : y < n := Classical.byContradiction fun hc => by
    obtain ⟨_, v1, h1, _⟩ := hg
    rw [hw y (by omega)] at h1; cases h1
  have hg1 : Grown N y k cs H0 H1 l := by
    obtain ⟨r1, v1, h1, v2, m, s0, s1, s2, s3, s4⟩ := hg
    have hmn : m < n := Classical.byContradiction fun hc => by rw [hw m (by omega)] at s3; unfold MO at s3; cases s3
    refine ⟨r1.trans (rc_kp hk1 hw), v1, (hk1.keep y hyn).trans h1, v2, m, s0, s1, s2, (hk1.keep m hmn).trans s3, ?_⟩
    rcases s4 with h | ⟨h0, z, e1, e2, e3⟩
    · exact .inl h
    · exact .inr ⟨h0, z, e1, e2, (hk1.keep z (Classical.byContradiction fun hc => by rw [hw z (by omega)] at e3; cases e3)).trans e3⟩
  simp (config := { maxSteps := 1000000 }) only [SS, qg0, qgb, qgl, qgi, qgf, forall_const, tor, textr, tbuild, afill, Go.AM.splice, one, Int.reduceEq, Int.reduceNeg, Nat.reduceGT, Nat.reduceLT, Nat.reduceLeDiff, Nat.reduceEqDiff, ↓reduceIte, reduceCtorEq, Int.reduceToNat, Int.reduceLE, Int.reduceLT, Nat.reduceAdd, Nat.reduceMul, ff_42]
  repeat (first | apply qqa | apply qqb | apply qqc | apply qqd | apply qqe | apply qqf | apply qqg | apply qqh | refine qqi rfl ?_ | ((first | (refine WK.rgn ?_ ?_; kernel_rfl) | refine AtCall.now ?_); simp (config := { maxSteps := 1000000 }) only [SS, qg0, qgb, qgl, qgi, qgf, forall_const, tor, textr, tbuild, afill, Go.AM.splice, one, Int.reduceEq, Int.reduceNeg, Nat.reduceGT, Nat.reduceLT, Nat.reduceLeDiff, Nat.reduceEqDiff, ↓reduceIte, reduceCtorEq, Int.reduceToNat, Int.reduceLE, Int.reduceLT, Nat.reduceAdd, Nat.reduceMul, ff_42]) | refine qqj rfl ?_ | refine qqk rfl ?_)
  refine WK.loop (fun k2 s => ∃ r : Nat, Kx (fun z => N ≤ z) n H s.n s.H ∧ s.f 0 = .pointer (some ⟨o, 0, none⟩) ∧ s.f 1 = .pointer (some ⟨y, k, none⟩) ∧ s.f 3 = .int .i64 (at_ : Nat) ∧ s.f 9 = .int .i64 (b : Nat) ∧ s.f 10 = .int .i64 (r : Nat) ∧ a ≤ r ∧ r ≤ b ∧ RC (· = y) H s.H ∧ Grown N y k cs H0 s.H (beginN g gd v at_ r l) ∧ k2 = b - r) (b - a) ?_ ?_
  · exact ⟨a, hk1.kx, rfl, rfl, rfl, rfl, rfl, Nat.le_refl _, hab, rc_kp hk1 hw, by rw [beginN_from a ea]; exact hg1, rfl⟩
  rintro kk ⟨f, n2, H2⟩ ⟨r, kx, f0, f1, f3, f9, f10, har, hrb, hrc, hg2, rfl⟩ ih
  simp only at f0 f1 f3 f9 f10 kx hrc hg2 ih
  have hle := kx.le
  by_cases hlt : r < b
  · have ho2 := (kx.keep o hon (by omega)).trans ho
    have hS2 := hS.kx st.wf kx hN
    have hrg : r < gd.length := by rw [st.gdL]; omega
    obtain ⟨z, kz, ds, tz, oz, rfl, hz, e⟩ := (st.gdA.sub hS2).at hrg
    have hw2 := kx.wf hw
    have hp : begP g gd v r = gd[r] := by
      unfold begP
      rw [eb r har hlt, List.getD_eq_getElem?_getD, List.getElem?_eq_getElem hrg]
      simp
    have hnx := beginN_succ (g := g) (gd := gd) (v := v) (at_ := at_) (l := l) r
    rw [hp] at hnx
    cases hgd : gd[r] with
    | true =>
      rw [hgd] at e hnx
      have hbd : Value.agg #[Value.int .i64 (r : Nat), Value.int .i64 0, Value.int .i64 (at_ : Nat)] = itV (r, 0, at_) := rfl
      repeat (first | apply qqa | apply qqb | apply qqc | apply qqd | apply qqe | apply qqf | apply qqg | apply qqh | refine qqi rfl ?_ | ((first | (refine WK.rgn ?_ ?_; kernel_rfl) | refine AtCall.now ?_); simp (config := { maxSteps := 1000000 }) only [SS, qg0, qgb, qgl, qgi, qgf, forall_const, tor, textr, tbuild, afill, Go.AM.splice, one, Int.reduceEq, Int.reduceNeg, Nat.reduceGT, Nat.reduceLT, Nat.reduceLeDiff, Nat.reduceEqDiff, ↓reduceIte, reduceCtorEq, Int.reduceToNat, Int.reduceLE, Int.reduceLT, Nat.reduceAdd, Nat.reduceMul, f0, f1, f3, f9, f10, hlt, ho2, ch3, hrg, hz, e, aop_nc, tnc, ff_42]) | refine qqj rfl ?_ | refine qqk rfl ?_)
      refine AtCall.byX (add_grown (x := (r, 0, at_)) hw2 (by omega) hyN hg2 ⟨by show r ≤ 1000000; omega, by show 0 ≤ 1000000; omega, by show at_ ≤ 1000000; omega⟩ (small_okL (beginN_ok hl r (by omega)) st.rl st.r8 ha)) ?_
      rintro w n3 H3 kx3 ⟨hrc3, hg3⟩
      simp (config := { maxSteps := 1000000 }) only [SS, qg0, qgb, qgl, qgi, qgf, forall_const, tor, textr, tbuild, afill, Go.AM.splice, one, Int.reduceEq, Int.reduceNeg, Nat.reduceGT, Nat.reduceLT, Nat.reduceLeDiff, Nat.reduceEqDiff, ↓reduceIte, reduceCtorEq, Int.reduceToNat, Int.reduceLE, Int.reduceLT, Nat.reduceAdd, Nat.reduceMul, ff_42]
      repeat (first | apply qqa | apply qqb | apply qqc | apply qqd | apply qqe | apply qqf | apply qqg | apply qqh | refine qqi rfl ?_ | ((first | (refine WK.rgn ?_ ?_; kernel_rfl) | refine AtCall.now ?_); simp (config := { maxSteps := 1000000 }) only [SS, qg0, qgb, qgl, qgi, qgf, forall_const, tor, textr, tbuild, afill, Go.AM.splice, one, Int.reduceEq, Int.reduceNeg, Nat.reduceGT, Nat.reduceLT, Nat.reduceLeDiff, Nat.reduceEqDiff, ↓reduceIte, reduceCtorEq, Int.reduceToNat, Int.reduceLE, Int.reduceLT, Nat.reduceAdd, Nat.reduceMul, f10, ff_42]) | refine qqj rfl ?_ | refine qqk rfl ?_)
      refine ih (b - (r + 1)) (by omega) _ ⟨r + 1, kx.trans kx3, f0, f1, f3, f9, ?_, by omega, hlt, hrc.trans hrc3, ?_, rfl⟩
      · simp only [packed, fset_apply, Nat.reduceEqDiff, ↓reduceIte, List.getD_cons_zero, List.getD_cons_succ, ff_42]
        rw [wrap_in (by omega) (by omega)]; rfl
      · rw [hnx, if_pos rfl]; exact hg3
    | false =>
      rw [hgd] at e hnx
      repeat (first | apply qqa | apply qqb | apply qqc | apply qqd | apply qqe | apply qqf | apply qqg | apply qqh | refine qqi rfl ?_ | ((first | (refine WK.rgn ?_ ?_; kernel_rfl) | refine AtCall.now ?_); simp (config := { maxSteps := 1000000 }) only [SS, qg0, qgb, qgl, qgi, qgf, forall_const, tor, textr, tbuild, afill, Go.AM.splice, one, Int.reduceEq, Int.reduceNeg, Nat.reduceGT, Nat.reduceLT, Nat.reduceLeDiff, Nat.reduceEqDiff, ↓reduceIte, reduceCtorEq, Int.reduceToNat, Int.reduceLE, Int.reduceLT, Nat.reduceAdd, Nat.reduceMul, f0, f1, f3, f9, f10, hlt, ho2, ch3, hrg, hz, e, aop_nc, tnc, ff_42]) | refine qqj rfl ?_ | refine qqk rfl ?_)
      refine ih (b - (r + 1)) (by omega) _ ⟨r + 1, kx, f0, f1, f3, f9, ?_, by omega, hlt, hrc, ?_, rfl⟩
      · simp only [packed, fset_apply, Nat.reduceEqDiff, ↓reduceIte, List.getD_cons_zero, List.getD_cons_succ, ff_42]
        rw [wrap_in (by omega) (by omega)]; rfl
      · rw [hnx, if_neg (by simp)]; exact hg2
  · repeat (first | apply qqa | apply qqb | apply qqc | apply qqd | apply qqe | apply qqf | apply qqg | apply qqh | refine qqi rfl ?_ | ((first | (refine WK.rgn ?_ ?_; kernel_rfl) | refine AtCall.now ?_); simp (config := { maxSteps := 1000000 }) only [SS, qg0, qgb, qgl, qgi, qgf, forall_const, tor, textr, tbuild, afill, Go.AM.splice, one, Int.reduceEq, Int.reduceNeg, Nat.reduceGT, Nat.reduceLT, Nat.reduceLeDiff, Nat.reduceEqDiff, ↓reduceIte, reduceCtorEq, Int.reduceToNat, Int.reduceLE, Int.reduceLT, Nat.reduceAdd, Nat.reduceMul, f0, f1, f3, f9, f10, hlt, ff_42]) | refine qqj rfl ?_ | refine qqk rfl ?_)
    (first | refine WK.retNil ⟨Or.inr rfl, _, rfl, ?_, ?_⟩ | refine WK.skipNil ⟨Or.inl rfl, _, rfl, ?_, ?_⟩)
    · exact kx.keep
    · have : r = b := by omega
      subst this
      refine ⟨hrc, ?_⟩
      unfold beginL
      rw [beginN_to _ hb ec]
      exact hg2
end Go.Proofs.Ytpdlmpbhohinpaa
