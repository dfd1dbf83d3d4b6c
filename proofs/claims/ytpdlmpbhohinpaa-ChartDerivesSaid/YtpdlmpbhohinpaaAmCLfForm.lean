/- A part of a proof. Its conditions: none. -/
import Derived.Test.YtpdlmpbhohinpaaAmCLfRun
set_option linter.all false
namespace Go.Proofs.Ytpdlmpbhohinpaa
open Go.AM
set_option maxRecDepth 100000
theorem il_rs {n0 : Nat} {H : Heap} {r : Nat} {v : Value} {l : List Int} (h : IL n0 H r v l) : ∃ p, v = .slice p l.length l.length ∧ RS (Value.int .i64) H p l := by
  rcases h with ⟨rfl, rfl⟩ | ⟨y, cs, rfl, hy, ht, _⟩
  · exact ⟨none, rfl, .inl ⟨rfl, rfl⟩⟩
  · have hl : l.length ≤ cs.length := by
      have := congrArg List.length ht
      rw [List.length_take, List.length_map] at this; omega
    refine ⟨_, rfl, .inr ⟨y, 0, cs, 3, true, rfl, hy, by omega, fun i s e => ?_⟩⟩
    have h1 : (cs.take l.length)[i]? = (l.map (Value.int .i64))[i]? := by rw [ht]
    have hi := (List.getElem?_eq_some_iff.1 e).1
    rw [List.getElem?_take, if_pos hi, List.getElem?_map, e] at h1
    rw [Nat.zero_add]; exact h1
set_option maxHeartbeats 8000000 in
theorem form_gives {n0 r : Nat} {pt pv pr : Option Addr} {g : Gram} {done left : List Int} {H : Heap} {n : Nat} (hw : WF n H) (hr : Runs n0 H r pt pv pr g done left) (hsz : done.length + left.length ≤ 2147483648) :
    Gives Try.prog 73 [.pointer (some ⟨r, 0, none⟩)] n H fun v _ H' => ∃ p, v = .slice p (done ++ left.reverse).length (done ++ left.reverse).length ∧ RS (Value.int .i64) H' p (done ++ left.reverse) := by
  obtain ⟨F, hF⟩ : ∃ F, done ++ left.reverse = F := ⟨_, rfl⟩
  rw [hF]
  obtain ⟨vd, vl, hro, hvd, hvl, hap⟩ := hr
  refine Gives.of orders ok73 (Nat.le_of_ble_eq_true rfl) ?_
  have hrl := live_lt hw (live_of hro)
  obtain ⟨ll, hll⟩ : ∃ ll : Nat, left.length = ll := ⟨_, rfl⟩
  obtain ⟨a, ha, _⟩ := il_rs hvl
  rw [hll] at ha
  have hlw : IntKind.i64.wrap ((ll : Int) - 1) = (ll : Int) - 1 := wrap_in (by omega) (by omega)
  have start : ∀ (n1 : Nat) (H1 : Heap) (f : Fr), Kp n H n1 H1 → IL n H1 r (f 3) done → f 0 = .pointer (some ⟨r, 0, none⟩) → f 4 = .int .i64 ((ll : Int) - 1) → ∃ j out, Kp n H n1 H1 ∧ f 0 = .pointer (some ⟨r, 0, none⟩) ∧ IL n H1 r (f 3) out ∧ out = done ++ left.reverse.take j ∧ f 4 = .int .i64 ((ll : Int) - 1 - (j : Nat)) ∧ j ≤ ll ∧ ll = ll - j :=
    fun n1 H1 f a b c d => ⟨0, done, a, c, b, by simp, by rw [d]; simp, Nat.zero_le _, rfl⟩
  subst ha
  refine WK.seq ?_
  repeat (first | apply qqa | apply qqb | apply qqc | apply qqd | apply qqe | apply qqf | apply qqg | apply qqh | refine qqi rfl ?_)
  (refine WK.rgn ?_ ?_; kernel_rfl; simp (config := { maxSteps := 1000000 }) only [SS, qg0, qgb, qgl, qgi, qgf, qgz, qge, forall_const, tor, tlen2, Go.AM.splice, one, Int.reduceEq, Int.reduceNeg, Nat.reduceGT, Nat.reduceLT, Nat.reduceLeDiff, Nat.reduceEqDiff, ↓reduceIte, reduceCtorEq, Int.reduceToNat, Int.reduceLE, Int.reduceLT, Nat.reduceAdd, Nat.reduceMul, ff_73])
  repeat (first | apply qqa | apply qqb | apply qqc | apply qqd | apply qqe | apply qqf | apply qqg | apply qqh | refine qqi rfl ?_)
  refine WK.cut (fun s => Kp n H s.n s.H ∧ IL n s.H r (s.f 3) done ∧ s.f 0 = .pointer (some ⟨r, 0, none⟩)) ?_ ?_
  · rcases hvd with ⟨rfl, hde⟩ | ⟨w, ds, rfl, hw', hwt, hnw, hwr⟩
    · repeat (first | apply qqa | apply qqb | apply qqc | apply qqd | apply qqe | apply qqf | apply qqg | apply qqh | refine qqi rfl ?_ | ((first | (refine WK.rgn ?_ ?_; kernel_rfl) | refine AtCall.now ?_); simp (config := { maxSteps := 1000000 }) only [SS, qg0, qgb, qgl, qgi, qgf, qgz, qge, forall_const, tor, tlen2, Go.AM.splice, one, Int.reduceEq, Int.reduceNeg, Nat.reduceGT, Nat.reduceLT, Nat.reduceLeDiff, Nat.reduceEqDiff, ↓reduceIte, reduceCtorEq, Int.reduceToNat, Int.reduceLE, Int.reduceLT, Nat.reduceAdd, Nat.reduceMul, aop_nc, tnc, hro, rc_3, ff_73]) | refine qqj rfl ?_ | refine qqk rfl ?_)
      exact WK.skipNil ⟨rfl, Kp.refl _ _, .inl ⟨rfl, hde⟩, rfl⟩
    · have hdc : done.length ≤ ds.length := by
        have := congrArg List.length hwt
        rw [List.length_take, List.length_map] at this; omega
      have hbg : ¬ bigN < done.length := by unfold bigN; omega
      by_cases hd0 : done.length = 0
      · rw [hd0] at hro
        repeat (first | apply qqa | apply qqb | apply qqc | apply qqd | apply qqe | apply qqf | apply qqg | apply qqh | refine qqi rfl ?_ | ((first | (refine WK.rgn ?_ ?_; kernel_rfl) | refine AtCall.now ?_); simp (config := { maxSteps := 1000000 }) only [SS, qg0, qgb, qgl, qgi, qgf, qgz, qge, forall_const, tor, tlen2, Go.AM.splice, one, Int.reduceEq, Int.reduceNeg, Nat.reduceGT, Nat.reduceLT, Nat.reduceLeDiff, Nat.reduceEqDiff, ↓reduceIte, reduceCtorEq, Int.reduceToNat, Int.reduceLE, Int.reduceLT, Nat.reduceAdd, Nat.reduceMul, aop_nc, tnc, hro, rc_3, hw', List.drop_zero, ff_73]) | refine qqj rfl ?_ | refine qqk rfl ?_)
        exact WK.skipNil ⟨rfl, Kp.refl _ _, .inl ⟨rfl, by simpa using hd0⟩, rfl⟩
      · repeat (first | apply qqa | apply qqb | apply qqc | apply qqd | apply qqe | apply qqf | apply qqg | apply qqh | refine qqi rfl ?_ | ((first | (refine WK.rgn ?_ ?_; kernel_rfl) | refine AtCall.now ?_); simp (config := { maxSteps := 1000000 }) only [SS, qg0, qgb, qgl, qgi, qgf, qgz, qge, forall_const, tor, tlen2, Go.AM.splice, one, Int.reduceEq, Int.reduceNeg, Nat.reduceGT, Nat.reduceLT, Nat.reduceLeDiff, Nat.reduceEqDiff, ↓reduceIte, reduceCtorEq, Int.reduceToNat, Int.reduceLE, Int.reduceLT, Nat.reduceAdd, Nat.reduceMul, aop_nc, tnc, hro, rc_3, hw', hdc, hwt, hbg, hd0, List.drop_zero, ff_73]) | refine qqj rfl ?_ | refine qqk rfl ?_)
        refine WK.skipNil ⟨rfl, Kp.new n H _, .inr ⟨n, _, rfl, hset_at _ _ _, List.take_of_length_le (by simp), Nat.le_refl _, by omega⟩, rfl⟩
  rintro ⟨f, n1, H1⟩ ⟨kp, hil, f0⟩
  simp only at kp hil f0
  have hro1 := (kp.keep r hrl).trans hro
  repeat (first | apply qqa | apply qqb | apply qqc | apply qqd | apply qqe | apply qqf | apply qqg | apply qqh | refine qqi rfl ?_ | ((first | (refine WK.rgn ?_ ?_; kernel_rfl) | refine AtCall.now ?_); simp (config := { maxSteps := 1000000 }) only [SS, qg0, qgb, qgl, qgi, qgf, qgz, qge, forall_const, tor, tlen2, Go.AM.splice, one, Int.reduceEq, Int.reduceNeg, Nat.reduceGT, Nat.reduceLT, Nat.reduceLeDiff, Nat.reduceEqDiff, ↓reduceIte, reduceCtorEq, Int.reduceToNat, Int.reduceLE, Int.reduceLT, Nat.reduceAdd, Nat.reduceMul, f0, aop_nc, tnc, hro1, rc_4, hlw, ff_73]) | refine qqj rfl ?_ | refine qqk rfl ?_)
  refine WK.loop (fun k s => ∃ (j : Nat) (out : List Int), Kp n H s.n s.H ∧ s.f 0 = .pointer (some ⟨r, 0, none⟩) ∧ IL n s.H r (s.f 3) out ∧ out = done ++ left.reverse.take j ∧ s.f 4 = .int .i64 ((ll : Int) - 1 - (j : Nat)) ∧ j ≤ ll ∧ k = ll - j) ll ?_ ?_
  · exact start _ _ _ kp hil f0 rfl
  clear start hil f0 kp hro1
  rintro kk ⟨f, n2, H2⟩ ⟨j, out, kp, f0, hil, hout, f4, hj, rfl⟩ ih
  simp only at kp f0 hil f4 ih
  have hw2 := kp.wf hw
  have hro2 := (kp.keep r hrl).trans hro
  have hol : out.length = done.length + j := by rw [hout]; simp; omega
  by_cases hjl : j < ll
  · obtain ⟨i, hi⟩ : ∃ i : Nat, (ll : Int) - 1 - j = i := ⟨ll - 1 - j, by omega⟩
    have hil' : i < left.length := by omega
    have hill : i < ll := by omega
    have hi0 : (0 ≤ (i : Int)) = True := by simp
    have hiw : IntKind.i64.wrap ((i : Int) - 1) = (ll : Int) - 1 - ((j + 1 : Nat) : Int) := by rw [wrap_in (by omega) (by omega)]; omega
    rw [hi] at f4
    rcases hvl with ⟨_, h⟩ | ⟨y, cs, hya, hy, htk, hny, hyr⟩
    · rw [h] at hll; simp at hll; omega
    simp only [Value.slice.injEq] at hya
    obtain ⟨rfl, _⟩ := hya
    have hy2 := (kp.keep y (live_lt hw (live_of hy))).trans hy
    have hcs : cs[i]? = some (.int .i64 left[i]) := by
      have h1 : (cs.take left.length)[i]? = some (.int .i64 left[i]) := by rw [htk, List.getElem?_map, List.getElem?_eq_getElem hil']; rfl
      rw [List.getElem?_take, if_pos hil'] at h1
      exact h1
    have hrev : left.reverse.take (j + 1) = left.reverse.take j ++ [left[i]] := by
      rw [List.take_succ_eq_append_getElem (by rw [List.length_reverse]; omega), List.getElem_reverse]
      congr 3
      omega
    have hbg : out.length + 1 ≤ bigN := by unfold bigN; omega
    obtain ⟨v3, hv3⟩ : ∃ v3, f 3 = v3 := ⟨_, rfl⟩
    rw [hv3] at hil
    rcases hil with ⟨rfl, hoe⟩ | ⟨w, ds, rfl, hw', hwt, hnw, hwr⟩
    · repeat (first | apply qqa | apply qqb | apply qqc | apply qqd | apply qqe | apply qqf | apply qqg | apply qqh | refine qqi rfl ?_ | ((first | (refine WK.rgn ?_ ?_; kernel_rfl) | refine AtCall.now ?_); simp (config := { maxSteps := 1000000 }) only [SS, qg0, qgb, qgl, qgi, qgf, qgz, qge, forall_const, tor, tlen2, Go.AM.splice, one, Int.reduceEq, Int.reduceNeg, Nat.reduceGT, Nat.reduceLT, Nat.reduceLeDiff, Nat.reduceEqDiff, ↓reduceIte, reduceCtorEq, Int.reduceToNat, Int.reduceLE, Int.reduceLT, Nat.reduceAdd, Nat.reduceMul, f0, f4, hv3, hi0, aop_nc, tnc, hro2, rc_4, hy2, hcs, hill, ebs_26_1, ff_73]) | refine qqj rfl ?_ | refine qqk rfl ?_)
      refine ih (ll - (j + 1)) (by omega) _ ⟨j + 1, out ++ [left[i]], (kp.trans (Kp.new n2 H2 _)).trans (Kp.new (n2 + 1) _ _), f0, ?_, by rw [hout, hrev, List.append_assoc], ?_, hjl, rfl⟩
      · rw [hoe]
        exact IL.grown (l := []) (hset_at _ _ _) (by have := kp.le; omega) (by have := kp.le; omega)
      · simp only [packed, fset_apply, Nat.reduceEqDiff, ↓reduceIte, List.getD_cons_zero, List.getD_cons_succ, f4, hiw, ff_73]
    · have hwl := live_lt hw2 (live_of hw')
      have hdc : out.length ≤ ds.length := by
        have := congrArg List.length hwt
        rw [List.length_take, List.length_map] at this; omega
      have c1 : ∀ o, hset H2 n2 o w = _ := fun o => (hset_ne _ _ _ (by omega)).trans hw'
      have c2 : [n2].contains w = false := by simp; omega
      repeat (first | apply qqa | apply qqb | apply qqc | apply qqd | apply qqe | apply qqf | apply qqg | apply qqh | refine qqi rfl ?_ | ((first | (refine WK.rgn ?_ ?_; kernel_rfl) | refine AtCall.now ?_); simp (config := { maxSteps := 1000000 }) only [SS, qg0, qgb, qgl, qgi, qgf, qgz, qge, forall_const, tor, tlen2, Go.AM.splice, one, Int.reduceEq, Int.reduceNeg, Nat.reduceGT, Nat.reduceLT, Nat.reduceLeDiff, Nat.reduceEqDiff, ↓reduceIte, reduceCtorEq, Int.reduceToNat, Int.reduceLE, Int.reduceLT, Nat.reduceAdd, Nat.reduceMul, f0, f4, hv3, hi0, aop_nc, tnc, hro2, rc_4, hy2, hcs, hill, ebs_26_1, c1, c2, hdc, hwt, hbg, List.drop_zero, ff_73]) | refine qqj rfl ?_ | refine qqk rfl ?_)
      refine ih (ll - (j + 1)) (by omega) _ ⟨j + 1, out ++ [left[i]], ((kp.trans (Kp.new n2 H2 _)).set _ hnw (by omega)).trans (Kp.new (n2 + 1) _ _), f0, ?_, by rw [hout, hrev, List.append_assoc], ?_, hjl, rfl⟩
      · exact IL.grown (hset_at _ _ _) (by have := kp.le; omega) (by have := kp.le; omega)
      · simp only [packed, fset_apply, Nat.reduceEqDiff, ↓reduceIte, List.getD_cons_zero, List.getD_cons_succ, f4, hiw, ff_73]
  · have hje : j = ll := by omega
    subst hje
    have hlt : ((j : Int) - 1 - j) = -1 := by omega
    rw [hlt] at f4
    have hm1 : ((0 : Int) ≤ -1) = False := by simp
    rw [List.take_of_length_le (by rw [List.length_reverse]; omega), hF] at hout
    subst hout
    obtain ⟨p, hp, hrs⟩ := il_rs hil
    repeat (first | apply qqa | apply qqb | apply qqc | apply qqd | apply qqe | apply qqf | apply qqg | apply qqh | refine qqi rfl ?_ | ((first | (refine WK.rgn ?_ ?_; kernel_rfl) | refine AtCall.now ?_); simp (config := { maxSteps := 1000000 }) only [SS, qg0, qgb, qgl, qgi, qgf, qgz, qge, forall_const, tor, tlen2, Go.AM.splice, one, Int.reduceEq, Int.reduceNeg, Nat.reduceGT, Nat.reduceLT, Nat.reduceLeDiff, Nat.reduceEqDiff, ↓reduceIte, reduceCtorEq, Int.reduceToNat, Int.reduceLE, Int.reduceLT, Nat.reduceAdd, Nat.reduceMul, f4, hp, hm1, ff_73]) | refine qqj rfl ?_ | refine qqk rfl ?_)
    (first | refine WK.retNil ⟨Or.inr rfl, _, rfl, ?_, ?_⟩ | refine WK.skipNil ⟨Or.inl rfl, _, rfl, ?_, ?_⟩)
    · exact kp.keep
    · simp only [packed, fset_apply, Nat.reduceEqDiff, ↓reduceIte, List.getD_cons_zero, List.getD_cons_succ, hp, ff_73]
      exact ⟨p, rfl, hrs⟩
end Go.Proofs.Ytpdlmpbhohinpaa
