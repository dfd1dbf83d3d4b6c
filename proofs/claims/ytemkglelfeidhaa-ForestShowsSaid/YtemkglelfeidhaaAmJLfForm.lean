/- A part of a proof. Its conditions: none. -/
import Derived.Test.YtemkglelfeidhaaAmJLfNullable
import Derived.Test.YtemkglelfeidhaaAmC
import Derived.Test.YtemkglelfeidhaaAmD
set_option linter.all false
namespace Go.Proofs.Ytemkglelfeidhaa
open Go.AM
set_option maxRecDepth 100000
def IL (n0 : Nat) (H : Heap) (r : Nat) (v : Value) (l : List Int) : Prop :=
 (v = .slice none 0 0 ∧ l = []) ∨ ∃ y cs, v = .slice (some ⟨y, 0, none⟩) l.length l.length ∧ H y = .cells cs 3 true ∧ cs.take l.length = l.map (Value.int .i64) ∧ n0 ≤ y ∧ y ≠ r
def rcells (pt pv pr : Option Addr) (g : Gram) (vd vl : Value) : List Value := [.slice pt g.terms.length g.terms.length, .slice pv g.vars.length g.vars.length, .slice pr g.rules.length g.rules.length, vd, vl]
def apart (vd vl : Value) : Prop := ∀ y z m k, vd = .slice (some ⟨y, 0, none⟩) m m → vl = .slice (some ⟨z, 0, none⟩) k k → y ≠ z
def Runs (n0 : Nat) (H : Heap) (r : Nat) (pt pv pr : Option Addr) (g : Gram) (done left : List Int) : Prop :=
 ∃ vd vl, H r = .cells (rcells pt pv pr g vd vl) 121 true ∧ IL n0 H r vd done ∧ IL n0 H r vl left ∧ apart vd vl
theorem IL.keep {n0 : Nat} {H H' : Heap} {r : Nat} {v : Value} {l : List Int} (h : IL n0 H r v l) (hk : ∀ y m, v = .slice (some ⟨y, 0, none⟩) m m → H y ≠ .dead → y ≠ r → H' y = H y) : IL n0 H' r v l := by
 rcases h with h | ⟨y, cs, e1, e2, e3, e4, e5⟩
 ·exact .inl h
 ·exact .inr ⟨y, cs, e1, by rw [hk y _ e1 (by rw [e2]; intro e; cases e) e5, e2], e3, e4, e5⟩
theorem IL.grown {n0 : Nat} {H' : Heap} {r y : Nat} {l : List Int} {s : Int} (hy : H' y = .cells (l.map (Value.int .i64) ++ [.int .i64 s]) 3 true) (hn : n0 ≤ y) (hr : y ≠ r) : IL n0 H' r (.slice (some ⟨y, 0, none⟩) (l.length + 1) (l.length + 1)) (l ++ [s]) := by
 refine .inr ⟨y, _, by rw [List.length_append]; rfl, hy, ?_, hn, hr⟩
 rw [List.map_append]
 exact List.take_of_length_le (by simp)
set_option maxHeartbeats 8000000 in
theorem lay_gives {n0 r : Nat} {pt pv pr p : Option Addr} {g : Gram} {done left form : List Int} {H0 H : Heap} {n : Nat} (hw0 : WF n0 H0) (k0 : Kp n0 H0 n H) (hr0 : n0 ≤ r) (hr : Runs n0 H r pt pv pr g done left) (hp : RA (Value.int .i64) H0 p form)
    (hd : ∀ s ∈ done, s < 0) (hsz : done.length + left.length + form.length ≤ 2147483648) :
    GivesX Try.prog (fun z => n0 ≤ z) 72 [.pointer (some ⟨r, 0, none⟩), .slice p form.length form.length] n H fun _ _ H' => Runs n0 H' r pt pv pr g (layS done (form ++ left.reverse)).1 (layS done (form ++ left.reverse)).2.reverse := by
  refine GivesX.of orders ok72 (Nat.le_of_ble_eq_true rfl) ?_
  have hlw : IntKind.i64.wrap ((form.length : Int) - 1) = (form.length : Int) - 1 := wrap_in (by omega) (by omega)
  repeat (first | refine qqm rfl ?_ | ((first | refine qqr ?_ | refine qqt ?_); simp only [SS, qx23, vun, simprocAttr, hlw, ff_72]))
  refine WK.loop (fun k s => ∃ (j : Nat) (left1 : List Int), Kp n0 H0 s.n s.H ∧ s.f 0 = .pointer (some ⟨r, 0, none⟩) ∧ s.f 1 = .slice p form.length form.length ∧ Runs n0 s.H r pt pv pr g done left1 ∧ left1 = left ++ form.reverse.take j ∧ s.f 4 = .int .i64 ((form.length : Int) - 1 - j) ∧ j ≤ form.length ∧ k = form.length - j) form.length ?_ ?_
  · exact ⟨0, left, k0, rfl, rfl, hr, by simp, by show Value.int .i64 ((form.length : Int) - 1) = _; simp, Nat.zero_le _, rfl⟩
  have k00 := k0
  clear hr k0
  rintro kk ⟨f, n1, H1⟩ ⟨j, left1, kp, f0, f1, hr, hl1, f4, hj, rfl⟩ ih
  simp only at f0 f1 f4 ih kp hr
  have hw1 := kp.wf hw0
  obtain ⟨vd, vl, hro, hvd, hvl, hap⟩ := hr
  have hrl := live_lt hw1 (live_of hro)
  have hll1 : left1.length = left.length + j := by rw [hl1]; simp; omega
  by_cases hjl : j < form.length
  · have hge : (0 ≤ (form.length : Int) - 1 - j) = True := by simp; omega
    obtain ⟨i, hi⟩ : ∃ i : Nat, (form.length : Int) - 1 - j = i := ⟨form.length - 1 - j, by omega⟩
    have hil : i < form.length := by omega
    have hi0 : (0 ≤ (i : Int)) = True := by simp
    have hiw : IntKind.i64.wrap ((i : Int) - 1) = (form.length : Int) - 1 - ((j + 1 : Nat) : Int) := by rw [wrap_in (by omega) (by omega)]; omega
    rw [hi] at f4
    have hp1 := hp.mono hw0 kp
    obtain ⟨z, kz, ds, tz, oz, rfl, hz, ez⟩ := hp1.at hil
    have hrev : form.reverse.take (j + 1) = form.reverse.take j ++ [form[i]] := by
      rw [List.take_succ_eq_append_getElem (by simpa using hjl), List.getElem_reverse]
      congr 3
      omega
    have hr1 : ∀ o, hset H1 n1 o r = _ := fun o => (hset_ne _ _ _ (by omega)).trans hro
    have hzn : z ≠ n1 := by have := live_lt hw1 (live_of hz); omega
    have b1 : left1.length + 1 ≤ bigN := by unfold bigN; omega
    rcases hvl with ⟨rfl, hle⟩ | ⟨y, cs, rfl, hy, htk, hny, hyr⟩
    · have hr2 : ∀ o o2, hset (hset H1 n1 o) (n1 + 1) o2 r = _ := fun o o2 => (hset_ne _ _ _ (by omega)).trans ((hset_ne _ _ _ (by omega)).trans hro)
      have hrs : ∀ v, (rcells pt pv pr g vd (.slice none 0 0)).set 4 v = rcells pt pv pr g vd v := fun v => rfl
      have hr4 : (rcells pt pv pr g vd (.slice none 0 0))[4]? = some (.slice none 0 0) := rfl
      have hrlen : (rcells pt pv pr g vd (.slice none 0 0)).length = 5 := rfl
      repeat (first | refine qqm rfl ?_ | ((first | refine qqr ?_ | refine qqt ?_); simp only [SS, qx23, vun, simprocAttr, f0, f1, f4, hi0, aop_nc, tnc, hro, hr4, hrlen, hz, ez, hil, ebs_26_1, hr2, hrs, ff_72]))
      refine ih (form.length - (j + 1)) (by omega) _ ⟨j + 1, left1 ++ [form[i]], ((kp.trans (Kp.new n1 H1 _)).trans (Kp.new (n1 + 1) _ _)).set _ hr0 (by omega), f0, f1, ⟨vd, .slice (some ⟨n1 + 1, 0, none⟩) 1 1, hset_at _ _ _, ?_, ?_, ?_⟩, by rw [hl1, hrev, List.append_assoc], ?_, hjl, rfl⟩
      · refine hvd.keep fun y m e hl hyr => ?_
        have := live_lt hw1 hl
        exact (hset_ne _ _ _ hyr).trans ((hset_ne _ _ _ (by omega)).trans (hset_ne _ _ _ (by omega)))
      · rw [hle]
        exact IL.grown (l := []) ((hset_ne _ _ _ (by omega)).trans (hset_at _ _ _)) (by have := kp.le; omega) (by omega)
      · intro y z' m k e1 e2
        simp only [Value.slice.injEq, Option.some.injEq, Addr.mk.injEq] at e2
        rcases hvd with ⟨h, _⟩ | ⟨y', cs', h, hy', _⟩
        · rw [h] at e1; simp at e1
        · rw [h] at e1
          simp only [Value.slice.injEq, Option.some.injEq, Addr.mk.injEq] at e1
          have := live_lt hw1 (live_of hy')
          omega
      · simp only [packed, fset_apply, Nat.reduceEqDiff, ↓reduceIte, List.getD_cons_zero, List.getD_cons_succ, hiw, ff_72]
    · have hlp : left1.length ≤ cs.length := by
        have := congrArg List.length htk
        rw [List.length_take, List.length_map] at this; omega
      have hyl := live_lt hw1 (live_of hy)
      have hy1 : ∀ o, hset H1 n1 o y = _ := fun o => (hset_ne _ _ _ (by omega)).trans hy
      have hct : [n1].contains y = false := by simp; omega
      have hr2 : ∀ o o2 o3, hset (hset (hset H1 n1 o) y o2) (n1 + 1) o3 r = _ := fun o o2 o3 => (hset_ne _ _ _ (by omega)).trans ((hset_ne _ _ _ (Ne.symm hyr)).trans ((hset_ne _ _ _ (by omega)).trans hro))
      have hrs : ∀ v, (rcells pt pv pr g vd (.slice (some ⟨y, 0, none⟩) left1.length left1.length)).set 4 v = rcells pt pv pr g vd v := fun v => rfl
      have hr4 : (rcells pt pv pr g vd (.slice (some ⟨y, 0, none⟩) left1.length left1.length))[4]? = some (.slice (some ⟨y, 0, none⟩) left1.length left1.length) := rfl
      have hrlen : (rcells pt pv pr g vd (.slice (some ⟨y, 0, none⟩) left1.length left1.length)).length = 5 := rfl
      repeat (first | refine qqm rfl ?_ | ((first | refine qqr ?_ | refine qqt ?_); simp only [SS, qx23, vun, simprocAttr, f0, f1, f4, hi0, aop_nc, tnc, hro, hr4, hrlen, hz, ez, hil, ebs_26_1, hy1, hct, b1, hlp, htk, List.drop_zero, hr2, hrs, ff_72]))
      refine ih (form.length - (j + 1)) (by omega) _ ⟨j + 1, left1 ++ [form[i]], (((kp.trans (Kp.new n1 H1 _)).set _ hny (by omega)).trans (Kp.new (n1 + 1) _ _)).set _ hr0 (by omega), f0, f1, ⟨vd, .slice (some ⟨n1 + 1, 0, none⟩) (left1.length + 1) (left1.length + 1), hset_at _ _ _, ?_, ?_, ?_⟩, by rw [hl1, hrev, List.append_assoc], ?_, hjl, rfl⟩
      · refine hvd.keep fun w m e hl hwr => ?_
        have := live_lt hw1 hl
        have hne : w ≠ y := by
          have hm : m = done.length := by
            rcases hvd with ⟨h, _⟩ | ⟨y', cs', h, _⟩
            · rw [h] at e; simp at e
            · rw [h] at e; simp only [Value.slice.injEq] at e; exact e.2.1.symm
          exact hap w y m left1.length e rfl
        exact (hset_ne _ _ _ hwr).trans ((hset_ne _ _ _ (by omega)).trans ((hset_ne _ _ _ hne).trans (hset_ne _ _ _ (by omega))))
      · exact IL.grown ((hset_ne _ _ _ (by omega)).trans (hset_at _ _ _)) (by have := kp.le; omega) (by omega)
      · intro w z' m k e1 e2
        simp only [Value.slice.injEq, Option.some.injEq, Addr.mk.injEq] at e2
        rcases hvd with ⟨h, _⟩ | ⟨y', cs', h, hy', _⟩
        · rw [h] at e1; simp at e1
        · rw [h] at e1
          simp only [Value.slice.injEq, Option.some.injEq, Addr.mk.injEq] at e1
          have := live_lt hw1 (live_of hy')
          omega
      · simp only [packed, fset_apply, Nat.reduceEqDiff, ↓reduceIte, List.getD_cons_zero, List.getD_cons_succ, hiw, ff_72]
  · have hje : j = form.length := by omega
    subst hje
    have hlt : ((form.length : Int) - 1 - form.length) = -1 := by omega
    rw [hlt] at f4
    have hm1 : ((0 : Int) ≤ -1) = False := by simp
    repeat (first | refine qqm rfl ?_ | ((first | refine qqr ?_ | refine qqt ?_); simp only [SS, qx23, vun, simprocAttr, f4, hm1, ff_72]))
    rw [List.take_of_length_le (by simp)] at hl1
    obtain ⟨Q, hQ⟩ : ∃ Q, form ++ left.reverse = Q := ⟨_, rfl⟩
    have hQl : Q.length = form.length + left.length := by rw [← hQ]; simp
    have hl1Q : left1 = Q.reverse := by rw [hl1, ← hQ]; simp
    rw [hQ]
    have hap' := hap
    refine WK.loop (fun k s => ∃ m, Kp n0 H0 s.n s.H ∧ s.f 0 = .pointer (some ⟨r, 0, none⟩) ∧ Runs n0 s.H r pt pv pr g (done ++ Q.take m) (Q.drop m).reverse ∧ m ≤ Q.length ∧ (∀ s ∈ Q.take m, s < 0) ∧ k = Q.length - m) Q.length ?_ ?_
    · exact ⟨0, kp, f0, ⟨vd, vl, hro, by simpa using hvd, by rw [List.drop_zero, ← hl1Q]; exact hvl, hap⟩, Nat.zero_le _, by simp, rfl⟩
    clear hap hap' hvl hvd hro hrl hll1 hl1 f0 f1 f4 kp hw1 ih hl1Q
    rintro kk ⟨f, n1, H1⟩ ⟨m, kp, f0, hr, hm, hneg, rfl⟩ ih
    simp only at f0 ih kp hr
    have hw1 := kp.wf hw0
    obtain ⟨vd, vl, hro, hvd, hvl, hap⟩ := hr
    have hrl := live_lt hw1 (live_of hro)
    have hr4 : (rcells pt pv pr g vd vl)[4]? = some vl := rfl
    have hr3 : (rcells pt pv pr g vd vl)[3]? = some vd := rfl
    have hrlen : ∀ a b, (rcells pt pv pr g a b).length = 5 := fun _ _ => rfl
    by_cases hml : m < Q.length
    · have hdrop : Q.drop m = Q[m] :: Q.drop (m + 1) := List.drop_eq_getElem_cons hml
      obtain ⟨s, hs⟩ : ∃ s, Q[m] = s := ⟨_, rfl⟩
      have hll : (Q.drop m).reverse = (Q.drop (m + 1)).reverse ++ [s] := by rw [hdrop, List.reverse_cons, hs]
      obtain ⟨L, hL⟩ : ∃ L, (Q.drop (m + 1)).reverse.length = L := ⟨_, rfl⟩
      have hLQ : L = Q.length - (m + 1) := by rw [← hL]; simp
      rw [hll] at hvl
      rcases hvl with ⟨_, h⟩ | ⟨y, cs, rfl, hy, htk, hny, hyr⟩
      · simp at h
      have hlen : ((Q.drop (m + 1)).reverse ++ [s]).length = L + 1 := by rw [List.length_append, hL]; rfl
      rw [hlen] at hr4 hr3 htk hap hro
      have hyl := live_lt hw1 (live_of hy)
      have hcs : cs[L]? = some (.int .i64 s) := by
        have h1 : (cs.take (L + 1))[L]? = some (.int .i64 s) := by
          rw [htk, List.map_append, List.getElem?_append_right (by rw [List.length_map, hL]; exact Nat.le_refl _), List.length_map, hL]
          simp
        rw [List.getElem?_take] at h1
        simpa using h1
      have hcl : L + 1 ≤ cs.length := by
        have := congrArg List.length htk
        rw [List.length_take, List.length_map, hlen] at this; omega
      have h0 : (0 : Int) < ((L + 1 : Nat) : Int) := by omega
      have hw0' : IntKind.i64.wrap (((L + 1 : Nat) : Int) - 1) = ((L : Nat) : Int) := by rw [wrap_in (by omega) (by omega)]; omega
      repeat (first | refine qqm rfl ?_ | ((first | refine qqr ?_ | refine qqt ?_); simp only [SS, qx23, vun, simprocAttr, f0, aop_nc, tnc, hro, hr4, h0, hw0', hy, hcs, Nat.lt_succ_self, Nat.le_succ, ff_72]))
      refine AtCall.by (isVar_gives _ _ _) ?_
      rintro v n2 H2 hk2 ⟨rfl, rfl, rfl⟩
      by_cases hv : 0 ≤ s
      · simp only [SS, qx23, vun, simprocAttr, hv, ff_72]
        repeat (first | refine qqm rfl ?_ | ((first | refine qqr ?_ | refine qqt ?_); simp only [SS, qx23, vun, simprocAttr, ff_72]))
        obtain ⟨e1, e2⟩ := tw_at hml hneg (by rw [hs]; exact hv)
        refine WK.skipNil ⟨Or.inl rfl, _, rfl, fun x _ hX => (kp.keep x (by omega)).trans (k00.keep x (by omega)).symm, vd, _, hro, ?_, ?_, hap⟩
        · unfold layS
          rw [e1]; exact hvd
        · unfold layS
          rw [e2, ← hdrop, hll]
          exact .inr ⟨y, cs, by rw [hlen], hy, by rw [hlen]; exact htk, hny, hyr⟩
      · simp only [SS, qx23, vun, simprocAttr, hv, ff_72]
        repeat refine qqn rfl ?_
        refine qqm rfl ?_
        repeat refine qqn rfl ?_
        have hdl : (done ++ Q.take m).length = done.length + m := by rw [List.length_append, List.length_take, Nat.min_eq_left hm]
        have hneg' : ∀ t ∈ Q.take (m + 1), t < 0 := by
          intro t ht
          rw [List.take_succ_eq_append_getElem hml, List.mem_append] at ht
          rcases ht with ht | ht
          · exact hneg t ht
          · simp at ht; omega
        have htake : done ++ Q.take (m + 1) = (done ++ Q.take m) ++ [s] := by rw [List.take_succ_eq_append_getElem hml, hs, List.append_assoc]
        have hr5 : ∀ o, hset H2 n2 o r = _ := fun o => (hset_ne _ _ _ (by omega)).trans hro
        have hkeepL : ∀ (H' : Heap), H' y = H2 y → IL n0 H' r (.slice (some ⟨y, 0, none⟩) L L) (Q.drop (m + 1)).reverse := fun H' e => by
          refine .inr ⟨y, cs, by rw [hL], e.trans hy, ?_, hny, hyr⟩
          have h1 := congrArg (List.take L) htk
          rw [List.take_take, Nat.min_eq_left (Nat.le_succ _), List.map_append, List.take_left' (by rw [List.length_map, hL])] at h1
          rw [hL]; exact h1
        rcases hvd with ⟨rfl, hde⟩ | ⟨w, ds, rfl, hw', hwt, hnw, hwr⟩
        · have hr6 : ∀ o o2, hset (hset H2 n2 o) (n2 + 1) o2 r = _ := fun o o2 => (hset_ne _ _ _ (by omega)).trans ((hset_ne _ _ _ (by omega)).trans hro)
          have hrs : ∀ v b, (rcells pt pv pr g (.slice none 0 0) b).set 3 v = rcells pt pv pr g v b := fun v b => rfl
          have hrs4 : ∀ v a b, (rcells pt pv pr g a b).set 4 v = rcells pt pv pr g a v := fun v a b => rfl
          have hr44 : ∀ a b, (rcells pt pv pr g a b)[4]? = some b := fun a b => rfl
          have hy7 : ∀ o o2 o3, hset (hset (hset H2 n2 o) (n2 + 1) o2) r o3 y = _ := fun o o2 o3 => (hset_ne _ _ _ hyr).trans ((hset_ne _ _ _ (by omega)).trans ((hset_ne _ _ _ (by omega)).trans hy))
          repeat (first | refine qqm rfl ?_ | ((first | refine qqr ?_ | refine qqt ?_); simp only [SS, qx23, vun, simprocAttr, f0, aop_nc, tnc, hro, hr3, hr44, hrlen, hw0', hy, hcs, Nat.lt_succ_self, Nat.le_succ, ebs_26_1, hr5, hr6, hrs, hrs4, hy7, isz_3, ff_72]))
          refine ih (Q.length - (m + 1)) (by omega) _ ⟨m + 1, ((kp.trans (Kp.new n2 H2 _)).trans (Kp.new (n2 + 1) _ _)).set _ hr0 (by omega), f0, ⟨_, _, hset_at _ _ _, ?_, hkeepL _ (hset_ne _ _ _ hyr |>.trans ((hset_ne _ _ _ (by omega)).trans (hset_ne _ _ _ (by omega)))), ?_⟩, hml, hneg', rfl⟩
          · rw [htake, hde]
            exact IL.grown (l := []) ((hset_ne _ _ _ (by omega)).trans (hset_at _ _ _)) (by have := kp.le; omega) (by omega)
          · intro a b i j e1 e2
            simp only [Value.slice.injEq, Option.some.injEq, Addr.mk.injEq] at e1 e2
            omega
        · rw [hdl] at hr3 hap hwt
          have hwl := live_lt hw1 (live_of hw')
          have hdc : done.length + m ≤ ds.length := by
            have := congrArg List.length hwt
            rw [List.length_take, List.length_map, hdl] at this; omega
          have hwy : w ≠ y := hap w y _ _ rfl rfl
          have hct : [n2].contains w = false := by simp; omega
          have hbg : done.length + m + 1 ≤ bigN := by unfold bigN; omega
          have hw5 : ∀ o, hset H2 n2 o w = _ := fun o => (hset_ne _ _ _ (by omega)).trans hw'
          have hr6 : ∀ o o2 o3, hset (hset (hset H2 n2 o) w o2) (n2 + 1) o3 r = _ := fun o o2 o3 => (hset_ne _ _ _ (by omega)).trans ((hset_ne _ _ _ (Ne.symm hwr)).trans ((hset_ne _ _ _ (by omega)).trans hro))
          have hrs : ∀ v a b, (rcells pt pv pr g a b).set 3 v = rcells pt pv pr g v b := fun v a b => rfl
          have hrs4 : ∀ v a b, (rcells pt pv pr g a b).set 4 v = rcells pt pv pr g a v := fun v a b => rfl
          have hr44 : ∀ a b, (rcells pt pv pr g a b)[4]? = some b := fun a b => rfl
          have hy7 : ∀ o o2 o3 o4, hset (hset (hset (hset H2 n2 o) w o2) (n2 + 1) o3) r o4 y = _ := fun o o2 o3 o4 => (hset_ne _ _ _ hyr).trans ((hset_ne _ _ _ (by omega)).trans ((hset_ne _ _ _ (Ne.symm hwy)).trans ((hset_ne _ _ _ (by omega)).trans hy)))
          rw [hdl] at hro hr6 hr5
          repeat (first | refine qqm rfl ?_ | ((first | refine qqr ?_ | refine qqt ?_); simp only [SS, qx23, vun, simprocAttr, f0, aop_nc, tnc, hro, hr3, hr44, hrlen, hw0', hy, hcs, Nat.lt_succ_self, Nat.le_succ, ebs_26_1, hr5, hr6, hw5, hct, hbg, hdc, hwt, List.drop_zero, hrs, hrs4, hy7, isz_3, ff_72]))
          refine ih (Q.length - (m + 1)) (by omega) _ ⟨m + 1, (((kp.trans (Kp.new n2 H2 _)).set _ hnw (by omega)).trans (Kp.new (n2 + 1) _ _)).set _ hr0 (by omega), f0, ⟨_, _, hset_at _ _ _, ?_, hkeepL _ (hset_ne _ _ _ hyr |>.trans ((hset_ne _ _ _ (by omega)).trans ((hset_ne _ _ _ (Ne.symm hwy)).trans (hset_ne _ _ _ (by omega))))), ?_⟩, hml, hneg', rfl⟩
          · rw [htake, ← hdl]
            exact IL.grown ((hset_ne _ _ _ (by omega)).trans (hset_at _ _ _)) (by have := kp.le; omega) (by omega)
          · intro a b i j e1 e2
            simp only [Value.slice.injEq, Option.some.injEq, Addr.mk.injEq] at e1 e2
            omega
    · have hme : m = Q.length := by omega
      subst hme
      rw [List.take_length] at hneg hvd
      rw [List.drop_length, List.reverse_nil] at hvl
      obtain ⟨e1, e2⟩ := tw_all hneg
      have h00 : ((0 : Int) < ((0 : Nat) : Int)) = False := by simp
      have fin : ∀ f : Fr, FinX Try.prog (fun z => n0 ≤ z) Try.f72.results.toList n H (fun _ _ H' => Runs n0 H' r pt pv pr g (layS done Q).1 (layS done Q).2.reverse) .normal ⟨f, n1, H1⟩ := fun f =>
        ⟨Or.inl rfl, _, rfl, fun x _ hX => (kp.keep x (by omega)).trans (k00.keep x (by omega)).symm, vd, vl, hro, by unfold layS; rw [e1]; exact hvd, by unfold layS; rw [e2]; exact hvl, hap⟩
      rcases hvl with ⟨rfl, _⟩ | ⟨y, cs, rfl, _⟩
      · repeat (first | refine qqm rfl ?_ | ((first | refine qqr ?_ | refine qqt ?_); simp only [SS, qx23, vun, simprocAttr, f0, aop_nc, tnc, hro, hr4, h00, ff_72]))
        exact WK.skipNil (fin _)
      · simp only [List.length_nil] at hr4 hro
        repeat (first | refine qqm rfl ?_ | ((first | refine qqr ?_ | refine qqt ?_); simp only [SS, qx23, vun, simprocAttr, f0, aop_nc, tnc, hro, hr4, h00, ff_72]))
        exact WK.skipNil (fin _)
end Go.Proofs.Ytemkglelfeidhaa

namespace Go.Proofs.Ytemkglelfeidhaa
open Go.AM
set_option maxRecDepth 100000
theorem rc_len (pt pv pr : Option Addr) (g : Gram) (a b : Value) : (rcells pt pv pr g a b).length = 5 := rfl
theorem rc_2 (pt pv pr : Option Addr) (g : Gram) (a b : Value) : (rcells pt pv pr g a b)[2]? = some (.slice pr g.rules.length g.rules.length) := rfl
theorem rc_3 (pt pv pr : Option Addr) (g : Gram) (a b : Value) : (rcells pt pv pr g a b)[3]? = some a := rfl
theorem rc_4 (pt pv pr : Option Addr) (g : Gram) (a b : Value) : (rcells pt pv pr g a b)[4]? = some b := rfl
theorem rc_s4 (pt pv pr : Option Addr) (g : Gram) (a b v : Value) : (rcells pt pv pr g a b).set 4 v = rcells pt pv pr g a v := rfl
set_option maxHeartbeats 8000000 in
theorem begin_gives {pt pv pr p : Option Addr} {g : Gram} {form : List Int} {n : Nat} {H : Heap} (hw : WF n H) (hp : RA (Value.int .i64) H p form) (hl : form.length ≤ 2147483648) :
  Gives Try.prog 51 [.agg (gcells pt pv pr g).toArray, .slice p form.length form.length] n H fun v _ H' => ∃ r, n ≤ r ∧ v = .pointer (some ⟨r, 0, none⟩) ∧ Runs n H' r pt pv pr g (layS [] form).1 (layS [] form).2.reverse := by
 refine Gives.of orders ok51 (Nat.le_of_ble_eq_true rfl) ?_
 have hk := Kp.new n H (.cells (gcells pt pv pr g) 25 true)
 have hb := hset_at H n (.cells (gcells pt pv pr g) 25 true)
 repeat refine qqn rfl ?_
 (refine qqr ?_; simp only [SS, qx43, simprocAttr, box_cells, box_one, ff_51])
 generalize hset H n (.cells (gcells pt pv pr g) 25 true) = H1 at *
 repeat refine qqn rfl ?_
 have e1 : vcells (.agg (gcells pt pv pr g).toArray) = gcells pt pv pr g := rfl
 have e2 : (gcells pt pv pr g).all one = true := rfl
 have e3 : Go.AM.splice [Value.slice none 0 0, .slice none 0 0, .slice none 0 0, .slice none 0 0, .slice none 0 0] 0 (gcells pt pv pr g) = rcells pt pv pr g (.slice none 0 0) (.slice none 0 0) := rfl
 have e4 : vcells (.agg (rcells pt pv pr g (.slice none 0 0) (.slice none 0 0)).toArray) = rcells pt pv pr g (.slice none 0 0) (.slice none 0 0) := rfl
 have e5 : (rcells pt pv pr g (.slice none 0 0) (.slice none 0 0)).all one = true := rfl
 (refine qqr ?_; simp only [SS, qx43, simprocAttr, hb, gc_len, gc_all, ebd_121, e1, e2, e3, e4, e5, ff_51])
 have k1 := Kp.new (n + 1) H1 (.cells (rcells pt pv pr g (.slice none 0 0) (.slice none 0 0)) 121 true)
 have b1 := hset_at H1 (n + 1) (.cells (rcells pt pv pr g (.slice none 0 0) (.slice none 0 0)) 121 true)
 generalize hset H1 (n + 1) (.cells (rcells pt pv pr g (.slice none 0 0) (.slice none 0 0)) 121 true) = H2 at *
 repeat refine qqn rfl ?_
 (refine qqr ?_; simp only [SS, qx43, simprocAttr, ff_51])
 have hr : Runs n H2 (n + 1) pt pv pr g [] [] := ⟨_, _, b1, .inl ⟨rfl, rfl⟩, .inl ⟨rfl, rfl⟩, fun y z m k e => by simp at e⟩
 have h := lay_gives (n0 := n) (H0 := H) hw (hk.trans k1) (by omega) hr hp (fun s hs => by cases hs) (by simpa using hl)
 refine AtCall.byX h ?_
 rintro v n3 H3 kx hr3
 rw [List.reverse_nil, List.append_nil] at hr3
 simp only [SS, qx43, simprocAttr, ff_51]
 repeat (first | refine qqm rfl ?_ | ((first | refine qqr ?_ | refine qqt ?_); simp only [SS, qx43, simprocAttr, ff_51]))
 (first | refine WK.retNil ⟨Or.inr rfl, _, rfl, ?_, ?_⟩ | refine WK.skipNil ⟨Or.inl rfl, _, rfl, ?_, ?_⟩)
 ·exact fun y hy => (kx.keep y (by omega) (by omega)).trans ((hk.trans k1).keep y hy)
 ·simp only [packed, fset_apply, Nat.reduceEqDiff, ↓reduceIte, List.getD_cons_zero, List.getD_cons_succ, ff_51]
  exact ⟨n + 1, by omega, rfl, hr3⟩
set_option maxHeartbeats 8000000 in
theorem stepr_gives {n0 r : Nat} {pt pv pr : Option Addr} {g : Gram} {done pend : List Int} {q : Int} {H0 H : Heap} {n : Nat} (hw0 : WF n0 H0) (k0 : Kp n0 H0 n H) (hr0 : n0 ≤ r) (hr : Runs n0 H r pt pv pr g done pend.reverse) (hl : Laid done pend)
  (hrr : RR H0 pr g.rules) (ok : RightOK g) (hsz : done.length + pend.length + 24 ≤ 2147483648) :
  GivesX Try.prog (fun z => n0 ≤ z) 52 [.pointer (some ⟨r, 0, none⟩), .int .i64 q] n H fun v _ H' => v = .int .i64 ((stepS g (done ++ pend) q).2 : Nat) ∧ ((stepS g (done ++ pend) q).2 = 0 → ∃ d' p', Runs n0 H' r pt pv pr g d' p'.reverse ∧ Laid d' p' ∧ d' ++ p' = (stepS g (done ++ pend) q).1) := by
 obtain ⟨F, hF⟩ : ∃ F, done ++ pend = F := ⟨_, rfl⟩
 rw [hF]
 obtain ⟨vd, vl, hro, hvd, hvl, hap⟩ := hr
 refine GivesX.of orders ok52 (Nat.le_of_ble_eq_true rfl) ?_
 have hrl := ok.rules
 have hw := k0.wf hw0
 have err : ∀ e : Nat, e ≠ 0 → stepS g F q = ([], e) → ∀ f : Fr, f 4 = .int .i64 e → FinX Try.prog (fun z => n0 ≤ z) Try.f52.results.toList n H (fun v _ H' => v = .int .i64 ((stepS g F q).2 : Nat) ∧ ((stepS g F q).2 = 0 → ∃ d' p', Runs n0 H' r pt pv pr g d' p'.reverse ∧ Laid d' p' ∧ d' ++ p' = (stepS g F q).1)) .ret ⟨f, n, H⟩ :=
  fun e he h f hf => ⟨Or.inr rfl, [f 4], rfl, fun _ _ _ => rfl, by rw [h]; exact hf, fun h0 => by rw [h] at h0; exact absurd h0 he⟩
 by_cases hq0 : q < 0
 ·repeat (first | refine qqm rfl ?_ | ((first | refine qqr ?_ | refine qqt ?_); simp only [SS, qx37, simprocAttr, hq0, ff_52]))
  exact WK.retNil (err 12 (by omega) (by unfold stepS; rw [if_pos (.inl hq0)]) _ rfl)
 by_cases hq1 : (g.rules.length : Int) ≤ q
 ·repeat (first | refine qqm rfl ?_ | ((first | refine qqr ?_ | refine qqt ?_); simp only [SS, qx37, simprocAttr, hq0, hq1, aop_nc, tnc, hro, rc_2, ff_52]))
  exact WK.retNil (err 12 (by omega) (by unfold stepS; rw [if_pos (.inr hq1)]) _ rfl)
 obtain ⟨i, rfl⟩ : ∃ i : Nat, q = i := ⟨q.toNat, by omega⟩
 have hi : i < g.rules.length := by omega
 have hi' : ¬ g.rules.length ≤ i := by omega
 have hneg : ((i : Int) < 0) = False := by simp
 obtain ⟨htw, hdw⟩ := hl.takeWhile
 rw [hF] at htw hdw
 cases pend with
 | nil =>
  have e13 : stepS g F (i : Nat) = ([], 13) := by unfold stepS; rw [if_neg (by omega), hdw]
  have h00 : (((0 : Nat) : Int) = 0) = True := by simp
  rcases hvl with ⟨rfl, _⟩ | ⟨y, cs, rfl, _⟩
  ·repeat (first | refine qqm rfl ?_ | ((first | refine qqr ?_ | refine qqt ?_); simp only [SS, qx37, simprocAttr, hneg, hi', aop_nc, tnc, hro, rc_2, rc_4, h00, ff_52]))
   exact WK.retNil (err 13 (by omega) e13 _ rfl)
  ·simp only [List.reverse_nil, List.length_nil] at hro
   repeat (first | refine qqm rfl ?_ | ((first | refine qqr ?_ | refine qqt ?_); simp only [SS, qx37, simprocAttr, hneg, hi', aop_nc, tnc, hro, rc_2, rc_4, h00, ff_52]))
   exact WK.retNil (err 13 (by omega) e13 _ rfl)
 | cons u rest =>
  have hst : stepS g F (i : Nat) = if g.rules[i].left = u then (done ++ g.rules[i].right ++ rest, 0) else ([], 14) := by
   unfold stepS
   rw [if_neg (by omega), hdw, htw]
   simp only [Int.toNat_natCast, List.getElem?_eq_getElem hi]
  obtain ⟨L, hL⟩ : ∃ L, rest.reverse.length = L := ⟨_, rfl⟩
  have hLr : rest.length = L := by rw [← hL]; simp
  rw [List.reverse_cons] at hvl
  rcases hvl with ⟨_, h⟩ | ⟨y, cs, rfl, hy, htk, hny, hyr⟩
  ·simp at h
  have hlen : (rest.reverse ++ [u]).length = L + 1 := by rw [List.length_append, hL]; rfl
  rw [hlen] at htk hap hro
  have hyl := live_lt hw (live_of hy)
  have hrl' := live_lt hw (live_of hro)
  have hcs : cs[L]? = some (.int .i64 u) := by
   have h1 : (cs.take (L + 1))[L]? = some (.int .i64 u) := by
    rw [htk, List.map_append, List.getElem?_append_right (by rw [List.length_map, hL]; exact Nat.le_refl _), List.length_map, hL]
    simp
   rw [List.getElem?_take] at h1
   simpa using h1
  have hn0 : (((L + 1 : Nat) : Int) = 0) = False := by simp; omega
  have hw0' : IntKind.i64.wrap (((L + 1 : Nat) : Int) - 1) = ((L : Nat) : Int) := by
   simp only [List.length_cons] at hsz
   rw [wrap_in (by omega) (by omega)]; omega
  have hrr1 := hrr.mono hw0 k0
  obtain ⟨z, kz, zs, tz, oz, p, e0, hz, d0, d1, d2, hp⟩ := hrr1.at hi
  obtain ⟨z', kz', zs', tz', oz', p', e0', hz', d0', d1', d2', hp'⟩ := hrr.at hi
  have hzz := (k0.keep z' (live_lt hw0 (live_of hz'))).trans hz'
  rw [e0] at e0'
  simp only [Option.some.injEq, Addr.mk.injEq] at e0'
  obtain ⟨rfl, rfl, _⟩ := e0'
  rw [hz] at hzz
  cases hzz
  rw [d1] at d1'
  simp only [Option.some.injEq, Value.slice.injEq] at d1'
  obtain ⟨rfl, _⟩ := d1'
  subst e0
  by_cases hlu : u = g.rules[i].left
  ·rw [if_pos hlu.symm] at hst
   have hzr : z ≠ r := by have := live_lt hw0 (live_of hz'); omega
   have hr2 : ∀ o, hset H r o r = o := fun o => hset_at _ _ _
   have hz2 : ∀ o, hset H r o z = _ := fun o => (hset_ne _ _ _ hzr).trans hz
   repeat (first | refine qqm rfl ?_ | ((first | refine qqr ?_ | refine qqt ?_); simp only [SS, qx37, simprocAttr, hneg, hi, hi', aop_nc, tnc, hro, rc_2, rc_4, rc_s4, rc_len, hn0, hw0', hy, hcs, hz, d0, d1, hlu, hz2, Nat.lt_succ_self, Nat.le_succ, isz_3, ff_52]))
   have hr3 : Runs n0 (hset H r (.cells (rcells pt pv (some ⟨z, kz, none⟩) g vd (.slice (some ⟨y, 0, none⟩) L L)) 121 true)) r pt pv (some ⟨z, kz, none⟩) g done rest.reverse := by
    refine ⟨vd, _, hset_at _ _ _, hvd.keep fun w m e hl hwr => hset_ne _ _ _ hwr, .inr ⟨y, cs, by rw [hL], (hset_ne _ _ _ hyr).trans hy, ?_, hny, hyr⟩, ?_⟩
    ·have h1 := congrArg (List.take L) htk
     rw [List.take_take, Nat.min_eq_left (Nat.le_succ _), List.map_append, List.take_left' (by rw [List.length_map, hL])] at h1
     rw [hL]; exact h1
    ·intro a b m k e1 e2
     simp only [Value.slice.injEq, Option.some.injEq, Addr.mk.injEq] at e2
     rw [← e2.1.1]
     exact hap a y m (L + 1) e1 rfl
   have hrlen := (ok.rule i hi).len
   have h := lay_gives (n0 := n0) (H0 := H0) (n := n) hw0 (k0.set _ hr0 hrl') hr0 hr3 hp' hl.done (by simp only [List.length_cons] at hsz; rw [hL]; omega)
   refine AtCall.byX h ?_
   rintro v n3 H3 kx hr4
   rw [List.reverse_reverse] at hr4
   simp only [SS, qx37, simprocAttr, ff_52]
   repeat (first | refine qqm rfl ?_ | ((first | refine qqr ?_ | refine qqt ?_); simp only [SS, qx37, simprocAttr, ff_52]))
   refine WK.retNil ⟨Or.inr rfl, _, rfl, fun x hx hX => ?_, ?_⟩
   ·exact (kx.keep x hx hX).trans (hset_ne _ _ _ (by omega))
   ·simp only [packed, fset_apply, Nat.reduceEqDiff, ↓reduceIte, List.getD_cons_zero, List.getD_cons_succ, ff_52]
    rw [hst]
    refine ⟨rfl, fun _ => ⟨_, _, hr4, layS_laid hl.done, ?_⟩⟩
    rw [layS_form, List.append_assoc]
  ·rw [if_neg (fun e => hlu e.symm)] at hst
   repeat (first | refine qqm rfl ?_ | ((first | refine qqr ?_ | refine qqt ?_); simp only [SS, qx37, simprocAttr, hneg, hi, hi', aop_nc, tnc, hro, rc_2, rc_4, hn0, hw0', hy, hcs, hz, d0, hlu, Nat.lt_succ_self, Nat.le_succ, ff_52]))
   exact WK.retNil (err 14 (by omega) hst _ rfl)
end Go.Proofs.Ytemkglelfeidhaa

namespace Go.Proofs.Ytemkglelfeidhaa
open Go.AM
set_option maxRecDepth 100000
theorem il_rs {n0 : Nat} {H : Heap} {r : Nat} {v : Value} {l : List Int} (h : IL n0 H r v l) : ∃ p, v = .slice p l.length l.length ∧ RS (Value.int .i64) H p l := by
  rcases h with ⟨rfl, rfl⟩ | ⟨y, cs, rfl, hy, ht, _⟩
  · exact ⟨none, rfl, .inl ⟨rfl, rfl⟩⟩
  · have hl : l.length ≤ cs.length := by
      have := congrArg List.length ht
      rw [List.length_take, List.length_map] at this; omega
    refine ⟨_, rfl, .inr ⟨y, 0, cs, 3, true, rfl, hy, by omega, fun i s e => ?_⟩⟩
    have h1 : (cs.take l.length)[i]? = (l.map (Value.int .i64))[i]? := by rw [ht]
    have hi := (List.getElem?_eq_some_iff.1 e).1
    rw [List.getElem?_take, if_pos hi, List.getElem?_map, e] at h1
    rw [Nat.zero_add]; exact h1
set_option maxHeartbeats 8000000 in
theorem form_gives {n0 r : Nat} {pt pv pr : Option Addr} {g : Gram} {done left : List Int} {H : Heap} {n : Nat} (hw : WF n H) (hr : Runs n0 H r pt pv pr g done left) (hsz : done.length + left.length ≤ 2147483648) :
    Gives Try.prog 53 [.pointer (some ⟨r, 0, none⟩)] n H fun v _ H' => ∃ p, v = .slice p (done ++ left.reverse).length (done ++ left.reverse).length ∧ RS (Value.int .i64) H' p (done ++ left.reverse) := by
  obtain ⟨F, hF⟩ : ∃ F, done ++ left.reverse = F := ⟨_, rfl⟩
  rw [hF]
  obtain ⟨vd, vl, hro, hvd, hvl, hap⟩ := hr
  refine Gives.of orders ok53 (Nat.le_of_ble_eq_true rfl) ?_
  have hrl := live_lt hw (live_of hro)
  obtain ⟨ll, hll⟩ : ∃ ll : Nat, left.length = ll := ⟨_, rfl⟩
  obtain ⟨a, ha, _⟩ := il_rs hvl
  rw [hll] at ha
  have hlw : IntKind.i64.wrap ((ll : Int) - 1) = (ll : Int) - 1 := wrap_in (by omega) (by omega)
  have start : ∀ (n1 : Nat) (H1 : Heap) (f : Fr), Kp n H n1 H1 → IL n H1 r (f 3) done → f 0 = .pointer (some ⟨r, 0, none⟩) → f 4 = .int .i64 ((ll : Int) - 1) → ∃ j out, Kp n H n1 H1 ∧ f 0 = .pointer (some ⟨r, 0, none⟩) ∧ IL n H1 r (f 3) out ∧ out = done ++ left.reverse.take j ∧ f 4 = .int .i64 ((ll : Int) - 1 - (j : Nat)) ∧ j ≤ ll ∧ ll = ll - j :=
    fun n1 H1 f a b c d => ⟨0, done, a, c, b, by simp, by rw [d]; simp, Nat.zero_le _, rfl⟩
  subst ha
  refine WK.seq ?_
  repeat refine qqn rfl ?_
  (refine qqr ?_; simp only [SS, qx38, simprocAttr, ff_53])
  repeat refine qqn rfl ?_
  refine WK.cut (fun s => Kp n H s.n s.H ∧ IL n s.H r (s.f 3) done ∧ s.f 0 = .pointer (some ⟨r, 0, none⟩)) ?_ ?_
  · rcases hvd with ⟨rfl, hde⟩ | ⟨w, ds, rfl, hw', hwt, hnw, hwr⟩
    · repeat (first | refine qqm rfl ?_ | ((first | refine qqr ?_ | refine qqt ?_); simp only [SS, qx38, simprocAttr, aop_nc, tnc, hro, rc_3, ff_53]))
      exact WK.skipNil ⟨rfl, Kp.refl _ _, .inl ⟨rfl, hde⟩, rfl⟩
    · have hdc : done.length ≤ ds.length := by
        have := congrArg List.length hwt
        rw [List.length_take, List.length_map] at this; omega
      have hbg : ¬ bigN < done.length := by unfold bigN; omega
      by_cases hd0 : done.length = 0
      · rw [hd0] at hro
        repeat (first | refine qqm rfl ?_ | ((first | refine qqr ?_ | refine qqt ?_); simp only [SS, qx38, simprocAttr, aop_nc, tnc, hro, rc_3, hw', List.drop_zero, ff_53]))
        exact WK.skipNil ⟨rfl, Kp.refl _ _, .inl ⟨rfl, by simpa using hd0⟩, rfl⟩
      · repeat (first | refine qqm rfl ?_ | ((first | refine qqr ?_ | refine qqt ?_); simp only [SS, qx38, simprocAttr, aop_nc, tnc, hro, rc_3, hw', hdc, hwt, hbg, hd0, List.drop_zero, ff_53]))
        refine WK.skipNil ⟨rfl, Kp.new n H _, .inr ⟨n, _, rfl, hset_at _ _ _, List.take_of_length_le (by simp), Nat.le_refl _, by omega⟩, rfl⟩
  rintro ⟨f, n1, H1⟩ ⟨kp, hil, f0⟩
  simp only at kp hil f0
  have hro1 := (kp.keep r hrl).trans hro
  repeat (first | refine qqm rfl ?_ | ((first | refine qqr ?_ | refine qqt ?_); simp only [SS, qx38, simprocAttr, f0, aop_nc, tnc, hro1, rc_4, hlw, ff_53]))
  refine WK.loop (fun k s => ∃ (j : Nat) (out : List Int), Kp n H s.n s.H ∧ s.f 0 = .pointer (some ⟨r, 0, none⟩) ∧ IL n s.H r (s.f 3) out ∧ out = done ++ left.reverse.take j ∧ s.f 4 = .int .i64 ((ll : Int) - 1 - (j : Nat)) ∧ j ≤ ll ∧ k = ll - j) ll ?_ ?_
  · exact start _ _ _ kp hil f0 rfl
  clear start hil f0 kp hro1
  rintro kk ⟨f, n2, H2⟩ ⟨j, out, kp, f0, hil, hout, f4, hj, rfl⟩ ih
  simp only at kp f0 hil f4 ih
  have hw2 := kp.wf hw
  have hro2 := (kp.keep r hrl).trans hro
  have hol : out.length = done.length + j := by rw [hout]; simp; omega
  by_cases hjl : j < ll
  · obtain ⟨i, hi⟩ : ∃ i : Nat, (ll : Int) - 1 - j = i := ⟨ll - 1 - j, by omega⟩
    have hil' : i < left.length := by omega
    have hill : i < ll := by omega
    have hi0 : (0 ≤ (i : Int)) = True := by simp
    have hiw : IntKind.i64.wrap ((i : Int) - 1) = (ll : Int) - 1 - ((j + 1 : Nat) : Int) := by rw [wrap_in (by omega) (by omega)]; omega
    rw [hi] at f4
    rcases hvl with ⟨_, h⟩ | ⟨y, cs, hya, hy, htk, hny, hyr⟩
    · rw [h] at hll; simp at hll; omega
    simp only [Value.slice.injEq] at hya
    obtain ⟨rfl, _⟩ := hya
    have hy2 := (kp.keep y (live_lt hw (live_of hy))).trans hy
    have hcs : cs[i]? = some (.int .i64 left[i]) := by
      have h1 : (cs.take left.length)[i]? = some (.int .i64 left[i]) := by rw [htk, List.getElem?_map, List.getElem?_eq_getElem hil']; rfl
      rw [List.getElem?_take, if_pos hil'] at h1
      exact h1
    have hrev : left.reverse.take (j + 1) = left.reverse.take j ++ [left[i]] := by
      rw [List.take_succ_eq_append_getElem (by rw [List.length_reverse]; omega), List.getElem_reverse]
      congr 3
      omega
    have hbg : out.length + 1 ≤ bigN := by unfold bigN; omega
    obtain ⟨v3, hv3⟩ : ∃ v3, f 3 = v3 := ⟨_, rfl⟩
    rw [hv3] at hil
    rcases hil with ⟨rfl, hoe⟩ | ⟨w, ds, rfl, hw', hwt, hnw, hwr⟩
    · repeat (first | refine qqm rfl ?_ | ((first | refine qqr ?_ | refine qqt ?_); simp only [SS, qx38, simprocAttr, f0, f4, hv3, hi0, aop_nc, tnc, hro2, rc_4, hy2, hcs, hill, ebs_26_1, ff_53]))
      refine ih (ll - (j + 1)) (by omega) _ ⟨j + 1, out ++ [left[i]], (kp.trans (Kp.new n2 H2 _)).trans (Kp.new (n2 + 1) _ _), f0, ?_, by rw [hout, hrev, List.append_assoc], ?_, hjl, rfl⟩
      · rw [hoe]
        exact IL.grown (l := []) (hset_at _ _ _) (by have := kp.le; omega) (by have := kp.le; omega)
      · simp only [packed, fset_apply, Nat.reduceEqDiff, ↓reduceIte, List.getD_cons_zero, List.getD_cons_succ, f4, hiw, ff_53]
    · have hwl := live_lt hw2 (live_of hw')
      have hdc : out.length ≤ ds.length := by
        have := congrArg List.length hwt
        rw [List.length_take, List.length_map] at this; omega
      have c1 : ∀ o, hset H2 n2 o w = _ := fun o => (hset_ne _ _ _ (by omega)).trans hw'
      have c2 : [n2].contains w = false := by simp; omega
      repeat (first | refine qqm rfl ?_ | ((first | refine qqr ?_ | refine qqt ?_); simp only [SS, qx38, simprocAttr, f0, f4, hv3, hi0, aop_nc, tnc, hro2, rc_4, hy2, hcs, hill, ebs_26_1, c1, c2, hdc, hwt, hbg, List.drop_zero, ff_53]))
      refine ih (ll - (j + 1)) (by omega) _ ⟨j + 1, out ++ [left[i]], ((kp.trans (Kp.new n2 H2 _)).set _ hnw (by omega)).trans (Kp.new (n2 + 1) _ _), f0, ?_, by rw [hout, hrev, List.append_assoc], ?_, hjl, rfl⟩
      · exact IL.grown (hset_at _ _ _) (by have := kp.le; omega) (by have := kp.le; omega)
      · simp only [packed, fset_apply, Nat.reduceEqDiff, ↓reduceIte, List.getD_cons_zero, List.getD_cons_succ, f4, hiw, ff_53]
  · have hje : j = ll := by omega
    subst hje
    have hlt : ((j : Int) - 1 - j) = -1 := by omega
    rw [hlt] at f4
    have hm1 : ((0 : Int) ≤ -1) = False := by simp
    rw [List.take_of_length_le (by rw [List.length_reverse]; omega), hF] at hout
    subst hout
    obtain ⟨p, hp, hrs⟩ := il_rs hil
    repeat (first | refine qqm rfl ?_ | ((first | refine qqr ?_ | refine qqt ?_); simp only [SS, qx38, simprocAttr, f4, hp, hm1, ff_53]))
    (first | refine WK.retNil ⟨Or.inr rfl, _, rfl, ?_, ?_⟩ | refine WK.skipNil ⟨Or.inl rfl, _, rfl, ?_, ?_⟩)
    · exact kp.keep
    · simp only [packed, fset_apply, Nat.reduceEqDiff, ↓reduceIte, List.getD_cons_zero, List.getD_cons_succ, hp, ff_53]
      exact ⟨p, rfl, hrs⟩
end Go.Proofs.Ytemkglelfeidhaa
