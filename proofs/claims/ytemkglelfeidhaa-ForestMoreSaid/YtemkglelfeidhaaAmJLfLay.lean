/- A part of a proof. Its conditions: none. -/
import Derived.Test.YtemkglelfeidhaaAmJFacts
import Derived.Test.YtemkglelfeidhaaAmC
import Derived.Test.YtemkglelfeidhaaAmD
import Derived.Test.YtemkglelfeidhaaAmJFoRep
import Derived.Test.YtemkglelfeidhaaAmJLfRight
set_option linter.all false
namespace Go.Proofs.Ytemkglelfeidhaa
open Go.AM
set_option maxRecDepth 100000
end Go.Proofs.Ytemkglelfeidhaa

namespace Go.Proofs.Ytemkglelfeidhaa
open Go.AM
set_option maxRecDepth 100000
end Go.Proofs.Ytemkglelfeidhaa

namespace Go.Proofs.Ytemkglelfeidhaa
open Go.AM
set_option maxRecDepth 100000
end Go.Proofs.Ytemkglelfeidhaa

namespace Go.Proofs.Ytemkglelfeidhaa
open Go.AM
set_option maxRecDepth 100000
def IL (n0 : Nat) (H : Heap) (r : Nat) (v : Value) (l : List Int) : Prop :=
  (v = .slice none 0 0 ∧ l = []) ∨ ∃ y cs, v = .slice (some ⟨y, 0, none⟩) l.length l.length ∧ H y = .cells cs 3 true ∧ cs.take l.length = l.map (Value.int .i64) ∧ n0 ≤ y ∧ y ≠ r
def rcells (pt pv pr : Option Addr) (g : Gram) (vd vl : Value) : List Value := [.slice pt g.terms.length g.terms.length, .slice pv g.vars.length g.vars.length, .slice pr g.rules.length g.rules.length, vd, vl]
def apart (vd vl : Value) : Prop := ∀ y z m k, vd = .slice (some ⟨y, 0, none⟩) m m → vl = .slice (some ⟨z, 0, none⟩) k k → y ≠ z
def Runs (n0 : Nat) (H : Heap) (r : Nat) (pt pv pr : Option Addr) (g : Gram) (done left : List Int) : Prop :=
  ∃ vd vl, H r = .cells (rcells pt pv pr g vd vl) 121 true ∧ IL n0 H r vd done ∧ IL n0 H r vl left ∧ apart vd vl
theorem IL.keep {n0 : Nat} {H H' : Heap} {r : Nat} {v : Value} {l : List Int} (h : IL n0 H r v l) (hk : ∀ y m, v = .slice (some ⟨y, 0, none⟩) m m → H y ≠ .dead → y ≠ r → H' y = H y) : IL n0 H' r v l := by
  rcases h with h | ⟨y, cs, e1, e2, e3, e4, e5⟩
  · exact .inl h
  · exact .inr ⟨y, cs, e1, by rw [hk y _ e1 (by rw [e2]; intro e; cases e) e5, e2], e3, e4, e5⟩
theorem IL.grown {n0 : Nat} {H' : Heap} {r y : Nat} {l : List Int} {s : Int} (hy : H' y = .cells (l.map (Value.int .i64) ++ [.int .i64 s]) 3 true) (hn : n0 ≤ y) (hr : y ≠ r) : IL n0 H' r (.slice (some ⟨y, 0, none⟩) (l.length + 1) (l.length + 1)) (l ++ [s]) := by
  refine .inr ⟨y, _, by rw [List.length_append]; rfl, hy, ?_, hn, hr⟩
  rw [List.map_append]
  exact List.take_of_length_le (by simp)
set_option maxHeartbeats 8000000 in
theorem lay_gives {n0 r : Nat} {pt pv pr p : Option Addr} {g : Gram} {done left form : List Int} {H0 H : Heap} {n : Nat} (hw0 : WF n0 H0) (k0 : Kp n0 H0 n H) (hr0 : n0 ≤ r) (hr : Runs n0 H r pt pv pr g done left) (hp : RA (Value.int .i64) H0 p form)
    (hd : ∀ s ∈ done, s < 0) (hsz : done.length + left.length + form.length ≤ 2147483648) :
    GivesX Try.prog (fun z => n0 ≤ z) 72 [.pointer (some ⟨r, 0, none⟩), .slice p form.length form.length] n H fun _ _ H' => Runs n0 H' r pt pv pr g (layS done (form ++ left.reverse)).1 (layS done (form ++ left.reverse)).2.reverse := by
  refine GivesX.of orders ok72 (Nat.le_of_ble_eq_true rfl) ?_
  have hlw : IntKind.i64.wrap ((form.length : Int) - 1) = (form.length : Int) - 1 := wrap_in (by omega) (by omega)
  repeat (first | apply WK.seq | apply WK.block | apply WK.skipSeq | apply WK.skipBlock | apply WK.retSeq | apply WK.retBlock | apply WK.exitSeq | apply WK.exitHere | refine WK.exitOn rfl ?_ | ((first | (refine WK.rgn ?_ ?_; kernel_rfl) | refine AtCall.now ?_); simp (config := { maxSteps := 1000000 }) only [SS, forall_const, wx, tguard, acallee, top, tval, fput, tor, vsh, vbin, vun, tload, tload2, tload3, tstore, tstore2, tstore3, Go.AM.splice, one, tidx, tidx2, tidx3, tfa, tfa2, tlen2, tlen3, tpick, tbs, tbs2, afill, tsl, tsl2, tsl3, tsl4, tsl5, Go.AM.bound, tap, tap2, tap3, tap4, tsrc, tsrc2, Int.reduceEq, Int.reduceNeg, Nat.reduceGT, Nat.reduceLT, Nat.reduceLeDiff, Nat.reduceEqDiff, ↓reduceIte, reduceCtorEq, Int.reduceToNat, Int.reduceLE, Int.reduceLT, Nat.reduceAdd, Nat.reduceMul, hlw, ff_72]) | (refine WK.condT ?_ ?_; focus (simp only [ev_tmp, ev_const, fset_apply, Nat.reduceEqDiff, ↓reduceIte, decide_true, decide_false, hlw, ff_72]; done)) | (refine WK.condF ?_ ?_; focus (simp only [ev_tmp, ev_const, fset_apply, Nat.reduceEqDiff, ↓reduceIte, decide_true, decide_false, hlw, ff_72]; done)))
  refine WK.loop (fun k s => ∃ (j : Nat) (left1 : List Int), Kp n0 H0 s.n s.H ∧ s.f 0 = .pointer (some ⟨r, 0, none⟩) ∧ s.f 1 = .slice p form.length form.length ∧ Runs n0 s.H r pt pv pr g done left1 ∧ left1 = left ++ form.reverse.take j ∧ s.f 4 = .int .i64 ((form.length : Int) - 1 - j) ∧ j ≤ form.length ∧ k = form.length - j) form.length ?_ ?_
  · exact ⟨0, left, k0, rfl, rfl, hr, by simp, by show Value.int .i64 ((form.length : Int) - 1) = _; simp, Nat.zero_le _, rfl⟩
  have k00 := k0
  clear hr k0
  rintro kk ⟨f, n1, H1⟩ ⟨j, left1, kp, f0, f1, hr, hl1, f4, hj, rfl⟩ ih
  simp only at f0 f1 f4 ih kp hr
  have hw1 := kp.wf hw0
  obtain ⟨vd, vl, hro, hvd, hvl, hap⟩ := hr
  have hrl := live_lt hw1 (live_of hro)
  have hll1 : left1.length = left.length + j := by rw [hl1]; simp; omega
  by_cases hjl : j < form.length
  · have hge : (0 ≤ (form.length : Int) - 1 - j) = True := by simp; omega
    obtain ⟨i, hi⟩ : ∃ i : Nat, (form.length : Int) - 1 - j = i := ⟨form.length - 1 - j, by omega⟩
    have hil : i < form.length := by omega
    have hi0 : (0 ≤ (i : Int)) = True := by simp
    have hiw : IntKind.i64.wrap ((i : Int) - 1) = (form.length : Int) - 1 - ((j + 1 : Nat) : Int) := by rw [wrap_in (by omega) (by omega)]; omega
    rw [hi] at f4
    have hp1 := hp.mono hw0 kp
    obtain ⟨z, kz, ds, tz, oz, rfl, hz, ez⟩ := hp1.at hil
    have hrev : form.reverse.take (j + 1) = form.reverse.take j ++ [form[i]] := by
      rw [List.take_succ_eq_append_getElem (by simpa using hjl), List.getElem_reverse]
      congr 3
      omega
    have hr1 : ∀ o, hset H1 n1 o r = _ := fun o => (hset_ne _ _ _ (by omega)).trans hro
    have hzn : z ≠ n1 := by have := live_lt hw1 (live_of hz); omega
    have b1 : left1.length + 1 ≤ bigN := by unfold bigN; omega
    rcases hvl with ⟨rfl, hle⟩ | ⟨y, cs, rfl, hy, htk, hny, hyr⟩
    · have hr2 : ∀ o o2, hset (hset H1 n1 o) (n1 + 1) o2 r = _ := fun o o2 => (hset_ne _ _ _ (by omega)).trans ((hset_ne _ _ _ (by omega)).trans hro)
      have hrs : ∀ v, (rcells pt pv pr g vd (.slice none 0 0)).set 4 v = rcells pt pv pr g vd v := fun v => rfl
      have hr4 : (rcells pt pv pr g vd (.slice none 0 0))[4]? = some (.slice none 0 0) := rfl
      have hrlen : (rcells pt pv pr g vd (.slice none 0 0)).length = 5 := rfl
      repeat (first | apply WK.seq | apply WK.block | apply WK.skipSeq | apply WK.skipBlock | apply WK.retSeq | apply WK.retBlock | apply WK.exitSeq | apply WK.exitHere | refine WK.exitOn rfl ?_ | ((first | (refine WK.rgn ?_ ?_; kernel_rfl) | refine AtCall.now ?_); simp (config := { maxSteps := 1000000 }) only [SS, forall_const, wx, tguard, acallee, top, tval, fput, tor, vsh, vbin, vun, tload, tload2, tload3, tstore, tstore2, tstore3, Go.AM.splice, one, tidx, tidx2, tidx3, tfa, tfa2, tlen2, tlen3, tpick, tbs, tbs2, afill, tsl, tsl2, tsl3, tsl4, tsl5, Go.AM.bound, tap, tap2, tap3, tap4, tsrc, tsrc2, Int.reduceEq, Int.reduceNeg, Nat.reduceGT, Nat.reduceLT, Nat.reduceLeDiff, Nat.reduceEqDiff, ↓reduceIte, reduceCtorEq, Int.reduceToNat, Int.reduceLE, Int.reduceLT, Nat.reduceAdd, Nat.reduceMul, f0, f1, f4, hi0, aop_nc, tnc, hro, hr4, hrlen, hz, ez, hil, ebs_26_1, hr2, hrs, ff_72]) | (refine WK.condT ?_ ?_; focus (simp only [ev_tmp, ev_const, fset_apply, Nat.reduceEqDiff, ↓reduceIte, decide_true, decide_false, f0, f1, f4, hi0, aop_nc, tnc, hro, hr4, hrlen, hz, ez, hil, ebs_26_1, hr2, hrs, ff_72]; done)) | (refine WK.condF ?_ ?_; focus (simp only [ev_tmp, ev_const, fset_apply, Nat.reduceEqDiff, ↓reduceIte, decide_true, decide_false, f0, f1, f4, hi0, aop_nc, tnc, hro, hr4, hrlen, hz, ez, hil, ebs_26_1, hr2, hrs, ff_72]; done)))
      refine ih (form.length - (j + 1)) (by omega) _ ⟨j + 1, left1 ++ [form[i]], ((kp.trans (Kp.new n1 H1 _)).trans (Kp.new (n1 + 1) _ _)).set _ hr0 (by omega), f0, f1, ⟨vd, .slice (some ⟨n1 + 1, 0, none⟩) 1 1, hset_at _ _ _, ?_, ?_, ?_⟩, by rw [hl1, hrev, List.append_assoc], ?_, hjl, rfl⟩
      · refine hvd.keep fun y m e hl hyr => ?_
        have := live_lt hw1 hl
        exact (hset_ne _ _ _ hyr).trans ((hset_ne _ _ _ (by omega)).trans (hset_ne _ _ _ (by omega)))
      · rw [hle]
        exact IL.grown (l := []) ((hset_ne _ _ _ (by omega)).trans (hset_at _ _ _)) (by have := kp.le; omega) (by omega)
      · intro y z' m k e1 e2
        simp only [Value.slice.injEq, Option.some.injEq, Addr.mk.injEq] at e2
        rcases hvd with ⟨h, _⟩ | ⟨y', cs', h, hy', _⟩
        · rw [h] at e1; simp at e1
        · rw [h] at e1
          simp only [Value.slice.injEq, Option.some.injEq, Addr.mk.injEq] at e1
          have := live_lt hw1 (live_of hy')
          omega
      · simp only [packed, fset_apply, Nat.reduceEqDiff, ↓reduceIte, List.getD_cons_zero, List.getD_cons_succ, hiw, ff_72]
    · have hlp : left1.length ≤ cs.length := by
        have := congrArg List.length htk
        rw [List.length_take, List.length_map] at this; omega
      have hyl := live_lt hw1 (live_of hy)
      have hy1 : ∀ o, hset H1 n1 o y = _ := fun o => (hset_ne _ _ _ (by omega)).trans hy
      have hct : [n1].contains y = false := by simp; omega
      have hr2 : ∀ o o2 o3, hset (hset (hset H1 n1 o) y o2) (n1 + 1) o3 r = _ := fun o o2 o3 => (hset_ne _ _ _ (by omega)).trans ((hset_ne _ _ _ (Ne.symm hyr)).trans ((hset_ne _ _ _ (by omega)).trans hro))
      have hrs : ∀ v, (rcells pt pv pr g vd (.slice (some ⟨y, 0, none⟩) left1.length left1.length)).set 4 v = rcells pt pv pr g vd v := fun v => rfl
      have hr4 : (rcells pt pv pr g vd (.slice (some ⟨y, 0, none⟩) left1.length left1.length))[4]? = some (.slice (some ⟨y, 0, none⟩) left1.length left1.length) := rfl
      have hrlen : (rcells pt pv pr g vd (.slice (some ⟨y, 0, none⟩) left1.length left1.length)).length = 5 := rfl
      repeat (first | apply WK.seq | apply WK.block | apply WK.skipSeq | apply WK.skipBlock | apply WK.retSeq | apply WK.retBlock | apply WK.exitSeq | apply WK.exitHere | refine WK.exitOn rfl ?_ | ((first | (refine WK.rgn ?_ ?_; kernel_rfl) | refine AtCall.now ?_); simp (config := { maxSteps := 1000000 }) only [SS, forall_const, wx, tguard, acallee, top, tval, fput, tor, vsh, vbin, vun, tload, tload2, tload3, tstore, tstore2, tstore3, Go.AM.splice, one, tidx, tidx2, tidx3, tfa, tfa2, tlen2, tlen3, tpick, tbs, tbs2, afill, tsl, tsl2, tsl3, tsl4, tsl5, Go.AM.bound, tap, tap2, tap3, tap4, tsrc, tsrc2, Int.reduceEq, Int.reduceNeg, Nat.reduceGT, Nat.reduceLT, Nat.reduceLeDiff, Nat.reduceEqDiff, ↓reduceIte, reduceCtorEq, Int.reduceToNat, Int.reduceLE, Int.reduceLT, Nat.reduceAdd, Nat.reduceMul, f0, f1, f4, hi0, aop_nc, tnc, hro, hr4, hrlen, hz, ez, hil, ebs_26_1, hy1, hct, b1, hlp, htk, List.drop_zero, hr2, hrs, ff_72]) | (refine WK.condT ?_ ?_; focus (simp only [ev_tmp, ev_const, fset_apply, Nat.reduceEqDiff, ↓reduceIte, decide_true, decide_false, f0, f1, f4, hi0, aop_nc, tnc, hro, hr4, hrlen, hz, ez, hil, ebs_26_1, hy1, hct, b1, hlp, htk, List.drop_zero, hr2, hrs, ff_72]; done)) | (refine WK.condF ?_ ?_; focus (simp only [ev_tmp, ev_const, fset_apply, Nat.reduceEqDiff, ↓reduceIte, decide_true, decide_false, f0, f1, f4, hi0, aop_nc, tnc, hro, hr4, hrlen, hz, ez, hil, ebs_26_1, hy1, hct, b1, hlp, htk, List.drop_zero, hr2, hrs, ff_72]; done)))
      refine ih (form.length - (j + 1)) (by omega) _ ⟨j + 1, left1 ++ [form[i]], (((kp.trans (Kp.new n1 H1 _)).set _ hny (by omega)).trans (Kp.new (n1 + 1) _ _)).set _ hr0 (by omega), f0, f1, ⟨vd, .slice (some ⟨n1 + 1, 0, none⟩) (left1.length + 1) (left1.length + 1), hset_at _ _ _, ?_, ?_, ?_⟩, by rw [hl1, hrev, List.append_assoc], ?_, hjl, rfl⟩
      · refine hvd.keep fun w m e hl hwr => ?_
        have := live_lt hw1 hl
        have hne : w ≠ y := by
          have hm : m = done.length := by
            rcases hvd with ⟨h, _⟩ | ⟨y', cs', h, _⟩
            · rw [h] at e; simp at e
            · rw [h] at e; simp only [Value.slice.injEq] at e; exact e.2.1.symm
          exact hap w y m left1.length e rfl
        exact (hset_ne _ _ _ hwr).trans ((hset_ne _ _ _ (by omega)).trans ((hset_ne _ _ _ hne).trans (hset_ne _ _ _ (by omega))))
      · exact IL.grown ((hset_ne _ _ _ (by omega)).trans (hset_at _ _ _)) (by have := kp.le; omega) (by omega)
      · intro w z' m k e1 e2
        simp only [Value.slice.injEq, Option.some.injEq, Addr.mk.injEq] at e2
        rcases hvd with ⟨h, _⟩ | ⟨y', cs', h, hy', _⟩
        · rw [h] at e1; simp at e1
        · rw [h] at e1
          simp only [Value.slice.injEq, Option.some.injEq, Addr.mk.injEq] at e1
          have := live_lt hw1 (live_of hy')
          omega
      · simp only [packed, fset_apply, Nat.reduceEqDiff, ↓reduceIte, List.getD_cons_zero, List.getD_cons_succ, hiw, ff_72]
  · have hje : j = form.length := by omega
    subst hje
    have hlt : ((form.length : Int) - 1 - form.length) = -1 := by omega
    rw [hlt] at f4
    have hm1 : ((0 : Int) ≤ -1) = False := by simp
    repeat (first | apply WK.seq | apply WK.block | apply WK.skipSeq | apply WK.skipBlock | apply WK.retSeq | apply WK.retBlock | apply WK.exitSeq | apply WK.exitHere | refine WK.exitOn rfl ?_ | ((first | (refine WK.rgn ?_ ?_; kernel_rfl) | refine AtCall.now ?_); simp (config := { maxSteps := 1000000 }) only [SS, forall_const, wx, tguard, acallee, top, tval, fput, tor, vsh, vbin, vun, tload, tload2, tload3, tstore, tstore2, tstore3, Go.AM.splice, one, tidx, tidx2, tidx3, tfa, tfa2, tlen2, tlen3, tpick, tbs, tbs2, afill, tsl, tsl2, tsl3, tsl4, tsl5, Go.AM.bound, tap, tap2, tap3, tap4, tsrc, tsrc2, Int.reduceEq, Int.reduceNeg, Nat.reduceGT, Nat.reduceLT, Nat.reduceLeDiff, Nat.reduceEqDiff, ↓reduceIte, reduceCtorEq, Int.reduceToNat, Int.reduceLE, Int.reduceLT, Nat.reduceAdd, Nat.reduceMul, f4, hm1, ff_72]) | (refine WK.condT ?_ ?_; focus (simp only [ev_tmp, ev_const, fset_apply, Nat.reduceEqDiff, ↓reduceIte, decide_true, decide_false, f4, hm1, ff_72]; done)) | (refine WK.condF ?_ ?_; focus (simp only [ev_tmp, ev_const, fset_apply, Nat.reduceEqDiff, ↓reduceIte, decide_true, decide_false, f4, hm1, ff_72]; done)))
    rw [List.take_of_length_le (by simp)] at hl1
    obtain ⟨Q, hQ⟩ : ∃ Q, form ++ left.reverse = Q := ⟨_, rfl⟩
    have hQl : Q.length = form.length + left.length := by rw [← hQ]; simp
    have hl1Q : left1 = Q.reverse := by rw [hl1, ← hQ]; simp
    rw [hQ]
    have hap' := hap
    refine WK.loop (fun k s => ∃ m, Kp n0 H0 s.n s.H ∧ s.f 0 = .pointer (some ⟨r, 0, none⟩) ∧ Runs n0 s.H r pt pv pr g (done ++ Q.take m) (Q.drop m).reverse ∧ m ≤ Q.length ∧ (∀ s ∈ Q.take m, s < 0) ∧ k = Q.length - m) Q.length ?_ ?_
    · exact ⟨0, kp, f0, ⟨vd, vl, hro, by simpa using hvd, by rw [List.drop_zero, ← hl1Q]; exact hvl, hap⟩, Nat.zero_le _, by simp, rfl⟩
    clear hap hap' hvl hvd hro hrl hll1 hl1 f0 f1 f4 kp hw1 ih hl1Q
    rintro kk ⟨f, n1, H1⟩ ⟨m, kp, f0, hr, hm, hneg, rfl⟩ ih
    simp only at f0 ih kp hr
    have hw1 := kp.wf hw0
    obtain ⟨vd, vl, hro, hvd, hvl, hap⟩ := hr
    have hrl := live_lt hw1 (live_of hro)
    have hr4 : (rcells pt pv pr g vd vl)[4]? = some vl := rfl
    have hr3 : (rcells pt pv pr g vd vl)[3]? = some vd := rfl
    have hrlen : ∀ a b, (rcells pt pv pr g a b).length = 5 := fun _ _ => rfl
    by_cases hml : m < Q.length
    · have hdrop : Q.drop m = Q[m] :: Q.drop (m + 1) := List.drop_eq_getElem_cons hml
      obtain ⟨s, hs⟩ : ∃ s, Q[m] = s := ⟨_, rfl⟩
      have hll : (Q.drop m).reverse = (Q.drop (m + 1)).reverse ++ [s] := by rw [hdrop, List.reverse_cons, hs]
      obtain ⟨L, hL⟩ : ∃ L, (Q.drop (m + 1)).reverse.length = L := ⟨_, rfl⟩
      have hLQ : L = Q.length - (m + 1) := by rw [← hL]; simp
      rw [hll] at hvl
      rcases hvl with ⟨_, h⟩ | ⟨y, cs, rfl, hy, htk, hny, hyr⟩
      · simp at h
      have hlen : ((Q.drop (m + 1)).reverse ++ [s]).length = L + 1 := by rw [List.length_append, hL]; rfl
      rw [hlen] at hr4 hr3 htk hap hro
      have hyl := live_lt hw1 (live_of hy)
      have hcs : cs[L]? = some (.int .i64 s) := by
        have h1 : (cs.take (L + 1))[L]? = some (.int .i64 s) := by
          rw [htk, List.map_append, List.getElem?_append_right (by rw [List.length_map, hL]; exact Nat.le_refl _), List.length_map, hL]
          simp
        rw [List.getElem?_take] at h1
        simpa using h1
      have hcl : L + 1 ≤ cs.length := by
        have := congrArg List.length htk
        rw [List.length_take, List.length_map, hlen] at this; omega
      have h0 : (0 : Int) < ((L + 1 : Nat) : Int) := by omega
      have hw0' : IntKind.i64.wrap (((L + 1 : Nat) : Int) - 1) = ((L : Nat) : Int) := by rw [wrap_in (by omega) (by omega)]; omega
      repeat (first | apply WK.seq | apply WK.block | apply WK.skipSeq | apply WK.skipBlock | apply WK.retSeq | apply WK.retBlock | apply WK.exitSeq | apply WK.exitHere | refine WK.exitOn rfl ?_ | ((first | (refine WK.rgn ?_ ?_; kernel_rfl) | refine AtCall.now ?_); simp (config := { maxSteps := 1000000 }) only [SS, forall_const, wx, tguard, acallee, top, tval, fput, tor, vsh, vbin, vun, tload, tload2, tload3, tstore, tstore2, tstore3, Go.AM.splice, one, tidx, tidx2, tidx3, tfa, tfa2, tlen2, tlen3, tpick, tbs, tbs2, afill, tsl, tsl2, tsl3, tsl4, tsl5, Go.AM.bound, tap, tap2, tap3, tap4, tsrc, tsrc2, Int.reduceEq, Int.reduceNeg, Nat.reduceGT, Nat.reduceLT, Nat.reduceLeDiff, Nat.reduceEqDiff, ↓reduceIte, reduceCtorEq, Int.reduceToNat, Int.reduceLE, Int.reduceLT, Nat.reduceAdd, Nat.reduceMul, f0, aop_nc, tnc, hro, hr4, h0, hw0', hy, hcs, Nat.lt_succ_self, Nat.le_succ, ff_72]) | (refine WK.condT ?_ ?_; focus (simp only [ev_tmp, ev_const, fset_apply, Nat.reduceEqDiff, ↓reduceIte, decide_true, decide_false, f0, aop_nc, tnc, hro, hr4, h0, hw0', hy, hcs, Nat.lt_succ_self, Nat.le_succ, ff_72]; done)) | (refine WK.condF ?_ ?_; focus (simp only [ev_tmp, ev_const, fset_apply, Nat.reduceEqDiff, ↓reduceIte, decide_true, decide_false, f0, aop_nc, tnc, hro, hr4, h0, hw0', hy, hcs, Nat.lt_succ_self, Nat.le_succ, ff_72]; done)))
      refine AtCall.by (isVar_gives _ _ _) ?_
      rintro v n2 H2 hk2 ⟨rfl, rfl, rfl⟩
      by_cases hv : 0 ≤ s
      · simp (config := { maxSteps := 1000000 }) only [SS, forall_const, wx, tguard, acallee, top, tval, fput, tor, vsh, vbin, vun, tload, tload2, tload3, tstore, tstore2, tstore3, Go.AM.splice, one, tidx, tidx2, tidx3, tfa, tfa2, tlen2, tlen3, tpick, tbs, tbs2, afill, tsl, tsl2, tsl3, tsl4, tsl5, Go.AM.bound, tap, tap2, tap3, tap4, tsrc, tsrc2, Int.reduceEq, Int.reduceNeg, Nat.reduceGT, Nat.reduceLT, Nat.reduceLeDiff, Nat.reduceEqDiff, ↓reduceIte, reduceCtorEq, Int.reduceToNat, Int.reduceLE, Int.reduceLT, Nat.reduceAdd, Nat.reduceMul, hv, ff_72]
        repeat (first | apply WK.seq | apply WK.block | apply WK.skipSeq | apply WK.skipBlock | apply WK.retSeq | apply WK.retBlock | apply WK.exitSeq | apply WK.exitHere | refine WK.exitOn rfl ?_ | ((first | (refine WK.rgn ?_ ?_; kernel_rfl) | refine AtCall.now ?_); simp (config := { maxSteps := 1000000 }) only [SS, forall_const, wx, tguard, acallee, top, tval, fput, tor, vsh, vbin, vun, tload, tload2, tload3, tstore, tstore2, tstore3, Go.AM.splice, one, tidx, tidx2, tidx3, tfa, tfa2, tlen2, tlen3, tpick, tbs, tbs2, afill, tsl, tsl2, tsl3, tsl4, tsl5, Go.AM.bound, tap, tap2, tap3, tap4, tsrc, tsrc2, Int.reduceEq, Int.reduceNeg, Nat.reduceGT, Nat.reduceLT, Nat.reduceLeDiff, Nat.reduceEqDiff, ↓reduceIte, reduceCtorEq, Int.reduceToNat, Int.reduceLE, Int.reduceLT, Nat.reduceAdd, Nat.reduceMul, ff_72]) | (refine WK.condT ?_ ?_; focus (simp only [ev_tmp, ev_const, fset_apply, Nat.reduceEqDiff, ↓reduceIte, decide_true, decide_false, ff_72]; done)) | (refine WK.condF ?_ ?_; focus (simp only [ev_tmp, ev_const, fset_apply, Nat.reduceEqDiff, ↓reduceIte, decide_true, decide_false, ff_72]; done)))
        obtain ⟨e1, e2⟩ := tw_at hml hneg (by rw [hs]; exact hv)
        refine WK.skipNil ⟨Or.inl rfl, _, rfl, fun x _ hX => (kp.keep x (by omega)).trans (k00.keep x (by omega)).symm, vd, _, hro, ?_, ?_, hap⟩
        · unfold layS
          rw [e1]; exact hvd
        · unfold layS
          rw [e2, ← hdrop, hll]
          exact .inr ⟨y, cs, by rw [hlen], hy, by rw [hlen]; exact htk, hny, hyr⟩
      · simp (config := { maxSteps := 1000000 }) only [SS, forall_const, wx, tguard, acallee, top, tval, fput, tor, vsh, vbin, vun, tload, tload2, tload3, tstore, tstore2, tstore3, Go.AM.splice, one, tidx, tidx2, tidx3, tfa, tfa2, tlen2, tlen3, tpick, tbs, tbs2, afill, tsl, tsl2, tsl3, tsl4, tsl5, Go.AM.bound, tap, tap2, tap3, tap4, tsrc, tsrc2, Int.reduceEq, Int.reduceNeg, Nat.reduceGT, Nat.reduceLT, Nat.reduceLeDiff, Nat.reduceEqDiff, ↓reduceIte, reduceCtorEq, Int.reduceToNat, Int.reduceLE, Int.reduceLT, Nat.reduceAdd, Nat.reduceMul, hv, ff_72]
        repeat (first | apply WK.seq | apply WK.block | apply WK.skipSeq | apply WK.skipBlock | apply WK.retSeq | apply WK.retBlock | apply WK.exitSeq | apply WK.exitHere | refine WK.exitOn rfl ?_)
        first | (refine WK.condT ?_ ?_; focus (simp only [ev_tmp, ev_const, fset_apply, Nat.reduceEqDiff, ↓reduceIte, decide_true, decide_false]; done)) | (refine WK.condF ?_ ?_; focus (simp only [ev_tmp, ev_const, fset_apply, Nat.reduceEqDiff, ↓reduceIte, decide_true, decide_false]; done))
        repeat (first | apply WK.seq | apply WK.block | apply WK.skipSeq | apply WK.skipBlock | apply WK.retSeq | apply WK.retBlock | apply WK.exitSeq | apply WK.exitHere | refine WK.exitOn rfl ?_)
        have hdl : (done ++ Q.take m).length = done.length + m := by rw [List.length_append, List.length_take, Nat.min_eq_left hm]
        have hneg' : ∀ t ∈ Q.take (m + 1), t < 0 := by
          intro t ht
          rw [List.take_succ_eq_append_getElem hml, List.mem_append] at ht
          rcases ht with ht | ht
          · exact hneg t ht
          · simp at ht; omega
        have htake : done ++ Q.take (m + 1) = (done ++ Q.take m) ++ [s] := by rw [List.take_succ_eq_append_getElem hml, hs, List.append_assoc]
        have hr5 : ∀ o, hset H2 n2 o r = _ := fun o => (hset_ne _ _ _ (by omega)).trans hro
        have hkeepL : ∀ (H' : Heap), H' y = H2 y → IL n0 H' r (.slice (some ⟨y, 0, none⟩) L L) (Q.drop (m + 1)).reverse := fun H' e => by
          refine .inr ⟨y, cs, by rw [hL], e.trans hy, ?_, hny, hyr⟩
          have h1 := congrArg (List.take L) htk
          rw [List.take_take, Nat.min_eq_left (Nat.le_succ _), List.map_append, List.take_left' (by rw [List.length_map, hL])] at h1
          rw [hL]; exact h1
        rcases hvd with ⟨rfl, hde⟩ | ⟨w, ds, rfl, hw', hwt, hnw, hwr⟩
        · have hr6 : ∀ o o2, hset (hset H2 n2 o) (n2 + 1) o2 r = _ := fun o o2 => (hset_ne _ _ _ (by omega)).trans ((hset_ne _ _ _ (by omega)).trans hro)
          have hrs : ∀ v b, (rcells pt pv pr g (.slice none 0 0) b).set 3 v = rcells pt pv pr g v b := fun v b => rfl
          have hrs4 : ∀ v a b, (rcells pt pv pr g a b).set 4 v = rcells pt pv pr g a v := fun v a b => rfl
          have hr44 : ∀ a b, (rcells pt pv pr g a b)[4]? = some b := fun a b => rfl
          have hy7 : ∀ o o2 o3, hset (hset (hset H2 n2 o) (n2 + 1) o2) r o3 y = _ := fun o o2 o3 => (hset_ne _ _ _ hyr).trans ((hset_ne _ _ _ (by omega)).trans ((hset_ne _ _ _ (by omega)).trans hy))
          repeat (first | apply WK.seq | apply WK.block | apply WK.skipSeq | apply WK.skipBlock | apply WK.retSeq | apply WK.retBlock | apply WK.exitSeq | apply WK.exitHere | refine WK.exitOn rfl ?_ | ((first | (refine WK.rgn ?_ ?_; kernel_rfl) | refine AtCall.now ?_); simp (config := { maxSteps := 1000000 }) only [SS, forall_const, wx, tguard, acallee, top, tval, fput, tor, vsh, vbin, vun, tload, tload2, tload3, tstore, tstore2, tstore3, Go.AM.splice, one, tidx, tidx2, tidx3, tfa, tfa2, tlen2, tlen3, tpick, tbs, tbs2, afill, tsl, tsl2, tsl3, tsl4, tsl5, Go.AM.bound, tap, tap2, tap3, tap4, tsrc, tsrc2, Int.reduceEq, Int.reduceNeg, Nat.reduceGT, Nat.reduceLT, Nat.reduceLeDiff, Nat.reduceEqDiff, ↓reduceIte, reduceCtorEq, Int.reduceToNat, Int.reduceLE, Int.reduceLT, Nat.reduceAdd, Nat.reduceMul, f0, aop_nc, tnc, hro, hr3, hr44, hrlen, hw0', hy, hcs, Nat.lt_succ_self, Nat.le_succ, ebs_26_1, hr5, hr6, hrs, hrs4, hy7, isz_3, ff_72]) | (refine WK.condT ?_ ?_; focus (simp only [ev_tmp, ev_const, fset_apply, Nat.reduceEqDiff, ↓reduceIte, decide_true, decide_false, f0, aop_nc, tnc, hro, hr3, hr44, hrlen, hw0', hy, hcs, Nat.lt_succ_self, Nat.le_succ, ebs_26_1, hr5, hr6, hrs, hrs4, hy7, isz_3, ff_72]; done)) | (refine WK.condF ?_ ?_; focus (simp only [ev_tmp, ev_const, fset_apply, Nat.reduceEqDiff, ↓reduceIte, decide_true, decide_false, f0, aop_nc, tnc, hro, hr3, hr44, hrlen, hw0', hy, hcs, Nat.lt_succ_self, Nat.le_succ, ebs_26_1, hr5, hr6, hrs, hrs4, hy7, isz_3, ff_72]; done)))
          refine ih (Q.length - (m + 1)) (by omega) _ ⟨m + 1, ((kp.trans (Kp.new n2 H2 _)).trans (Kp.new (n2 + 1) _ _)).set _ hr0 (by omega), f0, ⟨_, _, hset_at _ _ _, ?_, hkeepL _ (hset_ne _ _ _ hyr |>.trans ((hset_ne _ _ _ (by omega)).trans (hset_ne _ _ _ (by omega)))), ?_⟩, hml, hneg', rfl⟩
          · rw [htake, hde]
            exact IL.grown (l := []) ((hset_ne _ _ _ (by omega)).trans (hset_at _ _ _)) (by have := kp.le; omega) (by omega)
          · intro a b i j e1 e2
            simp only [Value.slice.injEq, Option.some.injEq, Addr.mk.injEq] at e1 e2
            omega
        · rw [hdl] at hr3 hap hwt
          have hwl := live_lt hw1 (live_of hw')
          have hdc : done.length + m ≤ ds.length := by
            have := congrArg List.length hwt
            rw [List.length_take, List.length_map, hdl] at this; omega
          have hwy : w ≠ y := hap w y _ _ rfl rfl
          have hct : [n2].contains w = false := by simp; omega
          have hbg : done.length + m + 1 ≤ bigN := by unfold bigN; omega
          have hw5 : ∀ o, hset H2 n2 o w = _ := fun o => (hset_ne _ _ _ (by omega)).trans hw'
          have hr6 : ∀ o o2 o3, hset (hset (hset H2 n2 o) w o2) (n2 + 1) o3 r = _ := fun o o2 o3 => (hset_ne _ _ _ (by omega)).trans ((hset_ne _ _ _ (Ne.symm hwr)).trans ((hset_ne _ _ _ (by omega)).trans hro))
          have hrs : ∀ v a b, (rcells pt pv pr g a b).set 3 v = rcells pt pv pr g v b := fun v a b => rfl
          have hrs4 : ∀ v a b, (rcells pt pv pr g a b).set 4 v = rcells pt pv pr g a v := fun v a b => rfl
          have hr44 : ∀ a b, (rcells pt pv pr g a b)[4]? = some b := fun a b => rfl
          have hy7 : ∀ o o2 o3 o4, hset (hset (hset (hset H2 n2 o) w o2) (n2 + 1) o3) r o4 y = _ := fun o o2 o3 o4 => (hset_ne _ _ _ hyr).trans ((hset_ne _ _ _ (by omega)).trans ((hset_ne _ _ _ (Ne.symm hwy)).trans ((hset_ne _ _ _ (by omega)).trans hy)))
          rw [hdl] at hro hr6 hr5
          repeat (first | apply WK.seq | apply WK.block | apply WK.skipSeq | apply WK.skipBlock | apply WK.retSeq | apply WK.retBlock | apply WK.exitSeq | apply WK.exitHere | refine WK.exitOn rfl ?_ | ((first | (refine WK.rgn ?_ ?_; kernel_rfl) | refine AtCall.now ?_); simp (config := { maxSteps := 1000000 }) only [SS, forall_const, wx, tguard, acallee, top, tval, fput, tor, vsh, vbin, vun, tload, tload2, tload3, tstore, tstore2, tstore3, Go.AM.splice, one, tidx, tidx2, tidx3, tfa, tfa2, tlen2, tlen3, tpick, tbs, tbs2, afill, tsl, tsl2, tsl3, tsl4, tsl5, Go.AM.bound, tap, tap2, tap3, tap4, tsrc, tsrc2, Int.reduceEq, Int.reduceNeg, Nat.reduceGT, Nat.reduceLT, Nat.reduceLeDiff, Nat.reduceEqDiff, ↓reduceIte, reduceCtorEq, Int.reduceToNat, Int.reduceLE, Int.reduceLT, Nat.reduceAdd, Nat.reduceMul, f0, aop_nc, tnc, hro, hr3, hr44, hrlen, hw0', hy, hcs, Nat.lt_succ_self, Nat.le_succ, ebs_26_1, hr5, hr6, hw5, hct, hbg, hdc, hwt, List.drop_zero, hrs, hrs4, hy7, isz_3, ff_72]) | (refine WK.condT ?_ ?_; focus (simp only [ev_tmp, ev_const, fset_apply, Nat.reduceEqDiff, ↓reduceIte, decide_true, decide_false, f0, aop_nc, tnc, hro, hr3, hr44, hrlen, hw0', hy, hcs, Nat.lt_succ_self, Nat.le_succ, ebs_26_1, hr5, hr6, hw5, hct, hbg, hdc, hwt, List.drop_zero, hrs, hrs4, hy7, isz_3, ff_72]; done)) | (refine WK.condF ?_ ?_; focus (simp only [ev_tmp, ev_const, fset_apply, Nat.reduceEqDiff, ↓reduceIte, decide_true, decide_false, f0, aop_nc, tnc, hro, hr3, hr44, hrlen, hw0', hy, hcs, Nat.lt_succ_self, Nat.le_succ, ebs_26_1, hr5, hr6, hw5, hct, hbg, hdc, hwt, List.drop_zero, hrs, hrs4, hy7, isz_3, ff_72]; done)))
          refine ih (Q.length - (m + 1)) (by omega) _ ⟨m + 1, (((kp.trans (Kp.new n2 H2 _)).set _ hnw (by omega)).trans (Kp.new (n2 + 1) _ _)).set _ hr0 (by omega), f0, ⟨_, _, hset_at _ _ _, ?_, hkeepL _ (hset_ne _ _ _ hyr |>.trans ((hset_ne _ _ _ (by omega)).trans ((hset_ne _ _ _ (Ne.symm hwy)).trans (hset_ne _ _ _ (by omega))))), ?_⟩, hml, hneg', rfl⟩
          · rw [htake, ← hdl]
            exact IL.grown ((hset_ne _ _ _ (by omega)).trans (hset_at _ _ _)) (by have := kp.le; omega) (by omega)
          · intro a b i j e1 e2
            simp only [Value.slice.injEq, Option.some.injEq, Addr.mk.injEq] at e1 e2
            omega
    · have hme : m = Q.length := by omega
      subst hme
      rw [List.take_length] at hneg hvd
      rw [List.drop_length, List.reverse_nil] at hvl
      obtain ⟨e1, e2⟩ := tw_all hneg
      have h00 : ((0 : Int) < ((0 : Nat) : Int)) = False := by simp
      have fin : ∀ f : Fr, FinX Try.prog (fun z => n0 ≤ z) Try.f72.results.toList n H (fun _ _ H' => Runs n0 H' r pt pv pr g (layS done Q).1 (layS done Q).2.reverse) .normal ⟨f, n1, H1⟩ := fun f =>
        ⟨Or.inl rfl, _, rfl, fun x _ hX => (kp.keep x (by omega)).trans (k00.keep x (by omega)).symm, vd, vl, hro, by unfold layS; rw [e1]; exact hvd, by unfold layS; rw [e2]; exact hvl, hap⟩
      rcases hvl with ⟨rfl, _⟩ | ⟨y, cs, rfl, _⟩
      · repeat (first | apply WK.seq | apply WK.block | apply WK.skipSeq | apply WK.skipBlock | apply WK.retSeq | apply WK.retBlock | apply WK.exitSeq | apply WK.exitHere | refine WK.exitOn rfl ?_ | ((first | (refine WK.rgn ?_ ?_; kernel_rfl) | refine AtCall.now ?_); simp (config := { maxSteps := 1000000 }) only [SS, forall_const, wx, tguard, acallee, top, tval, fput, tor, vsh, vbin, vun, tload, tload2, tload3, tstore, tstore2, tstore3, Go.AM.splice, one, tidx, tidx2, tidx3, tfa, tfa2, tlen2, tlen3, tpick, tbs, tbs2, afill, tsl, tsl2, tsl3, tsl4, tsl5, Go.AM.bound, tap, tap2, tap3, tap4, tsrc, tsrc2, Int.reduceEq, Int.reduceNeg, Nat.reduceGT, Nat.reduceLT, Nat.reduceLeDiff, Nat.reduceEqDiff, ↓reduceIte, reduceCtorEq, Int.reduceToNat, Int.reduceLE, Int.reduceLT, Nat.reduceAdd, Nat.reduceMul, f0, aop_nc, tnc, hro, hr4, h00, ff_72]) | (refine WK.condT ?_ ?_; focus (simp only [ev_tmp, ev_const, fset_apply, Nat.reduceEqDiff, ↓reduceIte, decide_true, decide_false, f0, aop_nc, tnc, hro, hr4, h00, ff_72]; done)) | (refine WK.condF ?_ ?_; focus (simp only [ev_tmp, ev_const, fset_apply, Nat.reduceEqDiff, ↓reduceIte, decide_true, decide_false, f0, aop_nc, tnc, hro, hr4, h00, ff_72]; done)))
        exact WK.skipNil (fin _)
      · simp only [List.length_nil] at hr4 hro
        repeat (first | apply WK.seq | apply WK.block | apply WK.skipSeq | apply WK.skipBlock | apply WK.retSeq | apply WK.retBlock | apply WK.exitSeq | apply WK.exitHere | refine WK.exitOn rfl ?_ | ((first | (refine WK.rgn ?_ ?_; kernel_rfl) | refine AtCall.now ?_); simp (config := { maxSteps := 1000000 }) only [SS, forall_const, wx, tguard, acallee, top, tval, fput, tor, vsh, vbin, vun, tload, tload2, tload3, tstore, tstore2, tstore3, Go.AM.splice, one, tidx, tidx2, tidx3, tfa, tfa2, tlen2, tlen3, tpick, tbs, tbs2, afill, tsl, tsl2, tsl3, tsl4, tsl5, Go.AM.bound, tap, tap2, tap3, tap4, tsrc, tsrc2, Int.reduceEq, Int.reduceNeg, Nat.reduceGT, Nat.reduceLT, Nat.reduceLeDiff, Nat.reduceEqDiff, ↓reduceIte, reduceCtorEq, Int.reduceToNat, Int.reduceLE, Int.reduceLT, Nat.reduceAdd, Nat.reduceMul, f0, aop_nc, tnc, hro, hr4, h00, ff_72]) | (refine WK.condT ?_ ?_; focus (simp only [ev_tmp, ev_const, fset_apply, Nat.reduceEqDiff, ↓reduceIte, decide_true, decide_false, f0, aop_nc, tnc, hro, hr4, h00, ff_72]; done)) | (refine WK.condF ?_ ?_; focus (simp only [ev_tmp, ev_const, fset_apply, Nat.reduceEqDiff, ↓reduceIte, decide_true, decide_false, f0, aop_nc, tnc, hro, hr4, h00, ff_72]; done)))
        exact WK.skipNil (fin _)
end Go.Proofs.Ytemkglelfeidhaa
