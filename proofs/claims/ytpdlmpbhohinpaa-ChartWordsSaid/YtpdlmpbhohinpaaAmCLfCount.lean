/- A part of a proof. Its conditions: none. -/
import Derived.Test.YtpdlmpbhohinpaaAmCSrch
import Derived.Test.YtpdlmpbhohinpaaAmCFacts
import Derived.Test.YtpdlmpbhohinpaaAmC
import Derived.Test.YtpdlmpbhohinpaaAmD
set_option linter.all false
namespace Go.Proofs.Ytpdlmpbhohinpaa
open Go.AM Go.RowKit
set_option maxRecDepth 100000
def Grown (N y k : Nat) (cs : List Value) (H H' : Heap) (l : List It) : Prop := RC (· = y) H H' ∧ ∃ v', H' y = .cells (cs.set k v') 69 true ∧ SC H' N (cs.set k v') k l
theorem Grown.refl {N y k : Nat} {cs : List Value} {H : Heap} {l : List It} (hy : H y = .cells cs 69 true) (hs : SC H N cs k l) : Grown N y k cs H H l := by
  have hs' := hs
  obtain ⟨v, m, h0, _⟩ := hs'
  exact ⟨.refl _ H, v, by rw [set_self h0]; exact hy, by rw [set_self h0]; exact hs⟩
theorem Grown.trans {N y k : Nat} {cs : List Value} {H H1 H2 : Heap} {l l2 : List It} (a : Grown N y k cs H H1 l) (b : ∀ cs1, H1 y = .cells cs1 69 true → SC H1 N cs1 k l → Grown N y k cs1 H1 H2 l2) : Grown N y k cs H H2 l2 := by
  obtain ⟨r1, v1, h1, s1⟩ := a
  obtain ⟨r2, v2, h2, s2⟩ := b _ h1 s1
  rw [List.set_set] at h2 s2
  exact ⟨r1.trans r2, v2, h2, s2⟩
theorem add_grown {N y k n : Nat} {H0 H : Heap} {cs : List Value} {l : List It} {x : It} (hw : WF n H) (hN : N ≤ n) (hyN : N ≤ y) (hg : Grown N y k cs H0 H l) (hx : smI x) (hl : l.length ≤ 900000) :
    GivesX Try.prog (fun z => N ≤ z) 45 [.pointer (some ⟨y, k, none⟩), itV x] n H fun _ _ H' => RC (· = y) H H' ∧ Grown N y k cs H0 H' (addI l x) := by
  have hg' := hg
  obtain ⟨r1, v1, h1, s1⟩ := hg'
  obtain ⟨v, n', H', a, b, c⟩ := add_gives hw hN hyN h1 s1 hx hl
  refine ⟨v, n', H', a, b, c.1, hg.trans fun cs1 h2 _ => ?_⟩
  rw [h1] at h2
  cases h2
  exact c
theorem small_okL {g : Gram} {at_ : Nat} {l : List It} (h : okL g at_ l) (hr : g.rules.length ≤ 24) (h8 : ∀ r ∈ g.rules, r.right.length ≤ 8) (ha : at_ ≤ 4000) : l.length ≤ 900000 := by
  have h1 := h.len
  have h2 := bndI_le (at_ := at_) hr h8
  omega
set_option maxHeartbeats 8000000 in
theorem cbegin_gives {S H0 H : Heap} {N o n y k at_ : Nat} {pt pv pr pg pe pc : Option Addr} {g : Gram} {gd em : List Bool} {co : List Nat} {sv wv : Value} {cs : List Value} {l : List It} {v : Int} (st : Stat S N pr pg pe pc g gd em co) (hw : WF n H) (hS : Sub S H) (hN : N ≤ n) (hoN : o < N) (hyN : N ≤ y)
    (ho : H o = .cells (chC pt pv pr pg pe pc g gd em co sv wv) 62 true) (hg : Grown N y k cs H0 H l) (hl : okL g at_ l) (ha : at_ ≤ 4000) :
    GivesX Try.prog (fun z => N ≤ z) 42 [.pointer (some ⟨o, 0, none⟩), .pointer (some ⟨y, k, none⟩), .int .i64 v, .int .i64 (at_ : Nat)] n H fun _ _ H' => RC (· = y) H H' ∧ Grown N y k cs H0 H' (beginL g gd v at_ l) := by
  refine GivesX.of orders ok42 (Nat.le_of_ble_eq_true rfl) ?_
  repeat (first | refine qqn rfl ?_)
  have c83 : 3 ≤ (chC pt pv pr pg pe pc g gd em co sv wv).length := by rw [chl]; omega
  repeat (first | refine qqn rfl ?_ | ((first | (refine WK.rgn ?_ ?_; kernel_rfl) | refine AtCall.now ?_); simp (config := {maxSteps:=999999}) only [SS, qx34, forall_const, simprocAttr, ho, chg, c83, aop_nc, tnc, ff_42]) | refine qqj rfl ?_ | refine qqk rfl ?_)
  refine AtCall.by (rules_gives (pt := pt) (pv := pv) (v := v) hw (st.rr.sub hS) st.rl st.up) ?_
  rintro w n1 H1 hk1 ⟨a, b, rfl, hab, hb, ea, eb, ec⟩
  have hrl := st.rl
  have hon : o < n := by omega
  have hyn : y < n := Classical.byContradiction fun hc => by
    obtain ⟨_, v1, h1, _⟩ := hg
    rw [hw y (by omega)] at h1; cases h1
  have hg1 : Grown N y k cs H0 H1 l := by
    obtain ⟨r1, v1, h1, v2, m, s0, s1, s2, s3, s4⟩ := hg
    have hmn : m < n := Classical.byContradiction fun hc => by rw [hw m (by omega)] at s3; unfold MO at s3; cases s3
    refine ⟨r1.trans (rc_kp hk1 hw), v1, (hk1.keep y hyn).trans h1, v2, m, s0, s1, s2, (hk1.keep m hmn).trans s3, ?_⟩
    rcases s4 with h | ⟨h0, z, e1, e2, e3⟩
    · exact .inl h
    · exact .inr ⟨h0, z, e1, e2, (hk1.keep z (Classical.byContradiction fun hc => by rw [hw z (by omega)] at e3; cases e3)).trans e3⟩
  simp (config := {maxSteps:=999999}) only [SS, qx34, forall_const, simprocAttr, ff_42]
  repeat (first | refine qqn rfl ?_ | ((first | (refine WK.rgn ?_ ?_; kernel_rfl) | refine AtCall.now ?_); simp (config := {maxSteps:=999999}) only [SS, qx34, forall_const, simprocAttr, ff_42]) | refine qqj rfl ?_ | refine qqk rfl ?_)
  refine WK.loop (fun k2 s => ∃ r : Nat, Kx (fun z => N ≤ z) n H s.n s.H ∧ s.f 0 = .pointer (some ⟨o, 0, none⟩) ∧ s.f 1 = .pointer (some ⟨y, k, none⟩) ∧ s.f 3 = .int .i64 (at_ : Nat) ∧ s.f 9 = .int .i64 (b : Nat) ∧ s.f 10 = .int .i64 (r : Nat) ∧ a ≤ r ∧ r ≤ b ∧ RC (· = y) H s.H ∧ Grown N y k cs H0 s.H (beginN g gd v at_ r l) ∧ k2 = b - r) (b - a) ?_ ?_
  · exact ⟨a, hk1.kx, rfl, rfl, rfl, rfl, rfl, Nat.le_refl _, hab, rc_kp hk1 hw, by rw [beginN_from a ea]; exact hg1, rfl⟩
  rintro kk ⟨f, n2, H2⟩ ⟨r, kx, f0, f1, f3, f9, f10, har, hrb, hrc, hg2, rfl⟩ ih
  simp only at f0 f1 f3 f9 f10 kx hrc hg2 ih
  have hle := kx.le
  by_cases hlt : r < b
  · have ho2 := (kx.keep o hon (by omega)).trans ho
    have hS2 := hS.kx st.wf kx hN
    have hrg : r < gd.length := by rw [st.gdL]; omega
    obtain ⟨z, kz, ds, tz, oz, rfl, hz, e⟩ := (st.gdA.sub hS2).at hrg
    have hw2 := kx.wf hw
    have hp : begP g gd v r = gd[r] := by
      unfold begP
      rw [eb r har hlt, List.getD_eq_getElem?_getD, List.getElem?_eq_getElem hrg]
      simp
    have hnx := beginN_succ (g := g) (gd := gd) (v := v) (at_ := at_) (l := l) r
    rw [hp] at hnx
    cases hgd : gd[r] with
    | true =>
      rw [hgd] at e hnx
      have hbd : Value.agg #[Value.int .i64 (r : Nat), Value.int .i64 0, Value.int .i64 (at_ : Nat)] = itV (r, 0, at_) := rfl
      repeat (first | refine qqn rfl ?_ | ((first | (refine WK.rgn ?_ ?_; kernel_rfl) | refine AtCall.now ?_); simp (config := {maxSteps:=999999}) only [SS, qx34, forall_const, simprocAttr, f0, f1, f3, f9, f10, hlt, ho2, ch3, hrg, hz, e, aop_nc, tnc, ff_42]) | refine qqj rfl ?_ | refine qqk rfl ?_)
      refine AtCall.byX (add_grown (x := (r, 0, at_)) hw2 (by omega) hyN hg2 ⟨by show r ≤ 1000000; omega, by show 0 ≤ 1000000; omega, by show at_ ≤ 1000000; omega⟩ (small_okL (beginN_ok hl r (by omega)) st.rl st.r8 ha)) ?_
      rintro w n3 H3 kx3 ⟨hrc3, hg3⟩
      simp (config := {maxSteps:=999999}) only [SS, qx34, forall_const, simprocAttr, ff_42]
      repeat (first | refine qqn rfl ?_ | ((first | (refine WK.rgn ?_ ?_; kernel_rfl) | refine AtCall.now ?_); simp (config := {maxSteps:=999999}) only [SS, qx34, forall_const, simprocAttr, f10, ff_42]) | refine qqj rfl ?_ | refine qqk rfl ?_)
      refine ih (b - (r + 1)) (by omega) _ ⟨r + 1, kx.trans kx3, f0, f1, f3, f9, ?_, by omega, hlt, hrc.trans hrc3, ?_, rfl⟩
      · simp only [packed, fset_apply, Nat.reduceEqDiff, ↓reduceIte, List.getD_cons_zero, List.getD_cons_succ, ff_42]
        rw [wrap_in (by omega) (by omega)]; rfl
      · rw [hnx, if_pos rfl]; exact hg3
    | false =>
      rw [hgd] at e hnx
      repeat (first | refine qqn rfl ?_ | ((first | (refine WK.rgn ?_ ?_; kernel_rfl) | refine AtCall.now ?_); simp (config := {maxSteps:=999999}) only [SS, qx34, forall_const, simprocAttr, f0, f1, f3, f9, f10, hlt, ho2, ch3, hrg, hz, e, aop_nc, tnc, ff_42]) | refine qqj rfl ?_ | refine qqk rfl ?_)
      refine ih (b - (r + 1)) (by omega) _ ⟨r + 1, kx, f0, f1, f3, f9, ?_, by omega, hlt, hrc, ?_, rfl⟩
      · simp only [packed, fset_apply, Nat.reduceEqDiff, ↓reduceIte, List.getD_cons_zero, List.getD_cons_succ, ff_42]
        rw [wrap_in (by omega) (by omega)]; rfl
      · rw [hnx, if_neg (by simp)]; exact hg2
  · repeat (first | refine qqn rfl ?_ | ((first | (refine WK.rgn ?_ ?_; kernel_rfl) | refine AtCall.now ?_); simp (config := {maxSteps:=999999}) only [SS, qx34, forall_const, simprocAttr, f0, f1, f3, f9, f10, hlt, ff_42]) | refine qqj rfl ?_ | refine qqk rfl ?_)
    (first | refine WK.retNil ⟨Or.inr rfl, _, rfl, ?_, ?_⟩ | refine WK.skipNil ⟨Or.inl rfl, _, rfl, ?_, ?_⟩)
    · exact kx.keep
    · have : r = b := by omega
      subst this
      refine ⟨hrc, ?_⟩
      unfold beginL
      rw [beginN_to _ hb ec]
      exact hg2
end Go.Proofs.Ytpdlmpbhohinpaa

namespace Go.Proofs.Ytpdlmpbhohinpaa
open Go.AM Go.RowKit
set_option maxRecDepth 100000
theorem okI.small {g : Gram} {at_ : Nat} {x : It} (h : okI g at_ x) (hr : g.rules.length ≤ 24) (h8 : ∀ r ∈ g.rules, r.right.length ≤ 8) (ha : at_ ≤ 4000) : x.1 < 24 ∧ x.2.1 ≤ 8 ∧ x.2.2 ≤ 4000 := by
  obtain ⟨h1, h2, h3⟩ := h
  rw [rgt_at h1] at h2
  have := h8 _ (List.getElem_mem h1)
  omega
theorem Grown.kp {N y k n n' : Nat} {cs : List Value} {H H1 H2 : Heap} {l : List It} (a : Grown N y k cs H H1 l) (hw : WF n H1) (hk : Kp n H1 n' H2) : Grown N y k cs H H2 l := by
  obtain ⟨r1, v1, h1, v2, m2, s0, s1, s2, s3, s4⟩ := a
  have hyn : y < n := Classical.byContradiction fun hc => by rw [hw y (by omega)] at h1; cases h1
  have hmn : m2 < n := Classical.byContradiction fun hc => by rw [hw m2 (by omega)] at s3; unfold MO at s3; cases s3
  refine ⟨r1.trans (rc_kp hk hw), v1, (hk.keep y hyn).trans h1, v2, m2, s0, s1, s2, (hk.keep m2 hmn).trans s3, ?_⟩
  rcases s4 with h | ⟨h0, z, e1, e2, e3⟩
  · exact .inl h
  · exact .inr ⟨h0, z, e1, e2, (hk.keep z (Classical.byContradiction fun hc => by rw [hw z (by omega)] at e3; cases e3)).trans e3⟩
set_option maxHeartbeats 8000000 in
theorem done_gives {S H0 H : Heap} {N o n y k at_ m c : Nat} {pt pv pr pg pe pc : Option Addr} {g : Gram} {gd em : List Bool} {co : List Nat} {wv : Value} {cs : List Value} {l ps : List It} {x : It} (st : Stat S N pr pg pe pc g gd em co) (hw : WF n H) (hS : Sub S H) (hN : N ≤ n) (hoN : o < N) (hyN : N ≤ y)
    (ho : H o = .cells (chC pt pv pr pg pe pc g gd em co (.slice (some ⟨y, 0, none⟩) m c) wv) 62 true) (hg : Grown N y k cs H0 H l) (hl : okL g at_ l) (ha : at_ ≤ 4000) (hx : okI g at_ x)
    (hm : x.2.2 < m) (hm4 : m ≤ 5000) {cs1 : List Value} (hy1 : H y = .cells cs1 69 true) {pp : Option Addr} (hp : cs1[x.2.2 * 2]? = some (.slice pp ps.length ps.length)) (hps : LR H (.slice pp ps.length ps.length) ps) (hpo : ∀ p ∈ ps, okI g at_ p) (hpl : ps.length ≤ 900000) :
    GivesX Try.prog (fun z => N ≤ z) 67 [.pointer (some ⟨o, 0, none⟩), .pointer (some ⟨y, k, none⟩), itV x] n H fun _ _ H' => RC (· = y) H H' ∧ Grown N y k cs H0 H' (doneL g (lft g x.1) ps l) := by
  refine GivesX.of orders ok67 (Nat.le_of_ble_eq_true rfl) ?_
  have hk := Kp.new n H (.cells (itC x) 74 true)
  have hb := hset_at H n (.cells (itC x) 74 true)
  have hon : o < n := by omega
  have hyn : y < n := Classical.byContradiction fun hc => by rw [hw y (by omega)] at hy1; cases hy1
  have ho1 := (hk.keep o hon).trans ho
  have hS1 := hS.kp hw hk
  have hrk := rc_kp (P := (· = y)) hk hw
  have hyb := (hk.keep y hyn).trans hy1
  repeat (first | refine qqn rfl ?_)
  (refine WK.rgn ?_ ?_; kernel_rfl; simp (config := {maxSteps:=999999}) only [SS, qx24, forall_const, Int.reduceEq, Int.reduceNeg, Nat.reduceGT, Nat.reduceLT, Nat.reduceLeDiff, Nat.reduceEqDiff, ↓reduceIte, reduceCtorEq, Int.reduceToNat, Int.reduceLE, Int.reduceLT, Nat.reduceAdd, Nat.reduceMul, itvc, itone, ff_67])
  generalize hset H n (.cells (itC x) 74 true) = H1 at *
  obtain ⟨hx1, hx2, hx3⟩ := hx
  have hrl := st.rl
  obtain ⟨z, kz, ds, tz, oz, p, rfl, hz, c0, c1, c2, hpp⟩ := (st.rr.sub hS1).at hx1
  repeat (first | refine qqn rfl ?_ | ((first | (refine WK.rgn ?_ ?_; kernel_rfl) | refine AtCall.now ?_); simp (config := {maxSteps:=999999}) only [SS, qx24, forall_const, Int.reduceEq, Int.reduceNeg, Nat.reduceGT, Nat.reduceLT, Nat.reduceLeDiff, Nat.reduceEqDiff, ↓reduceIte, reduceCtorEq, Int.reduceToNat, Int.reduceLE, Int.reduceLT, Nat.reduceAdd, Nat.reduceMul, hb, ho1, ch2, ch6, it0, it1, it2, aop_nc, tnc, hx1, hz, c0, c1, hm, hyb, hp, ff_67]) | refine qqj rfl ?_ | refine qqk rfl ?_)
  have hw1 := hk.wf hw
  have hg1 := hg.kp hw hk
  have hps1 := hps.rk hrk.1
  refine WK.loop (fun k2 s => ∃ j : Nat, Kx (fun z => N ≤ z) n H s.n s.H ∧ s.f 0 = .pointer (some ⟨o, 0, none⟩) ∧ s.f 1 = .pointer (some ⟨y, k, none⟩) ∧ s.f 6 = .int .i64 (lft g x.1) ∧ s.f 29 = .slice pp ps.length ps.length ∧ s.f 30 = .int .i64 (ps.length : Nat) ∧ s.f 31 = .int .i64 (j : Nat) ∧ j ≤ ps.length ∧ RC (· = y) H1 s.H ∧ Grown N y k cs H0 s.H (doneL g (lft g x.1) (ps.take j) l) ∧ k2 = ps.length - j) ps.length ?_ ?_
  · exact ⟨0, hk.kx, rfl, rfl, by rw [lft_at hx1]; rfl, rfl, rfl, rfl, Nat.zero_le _, .refl _ _, by rw [List.take_zero]; exact hg1, rfl⟩
  rintro kk ⟨f, n2, H2⟩ ⟨j, kx, f0, f1, f6, f29, f30, f31, hj, hrk2, hg2, rfl⟩ ih
  simp only at f0 f1 f6 f29 f30 f31 kx hg2 hrk2 ih
  have hle := kx.le
  have hw2 := kx.wf hw
  by_cases hlt : j < ps.length
  · obtain ⟨zp, op, rfl, hzp, e3, e4⟩ := (hps1.rk hrk2.1).at hlt
    have hk3 := Kp.new n2 H2 (.cells (itC ps[j]) 74 true)
    have hb3 := hset_at H2 n2 (.cells (itC ps[j]) 74 true)
    have ho3 := ((kx.trans hk3.kx).keep o hon (by omega)).trans ho
    have hS3 := hS.kx st.wf (kx.trans hk3.kx) hN
    have hw3 := hk3.wf hw2
    have hrk3 := hrk2.trans (rc_kp hk3 hw2)
    have hg3 := hg2.kp hw2 hk3
    have kx3 := kx.trans hk3.kx
    generalize hE : hset H2 n2 (.cells (itC ps[j]) 74 true) = H3 at *
    repeat (first | refine qqn rfl ?_ | ((first | (refine WK.rgn ?_ ?_; kernel_rfl) | refine AtCall.now ?_); simp (config := {maxSteps:=999999}) only [SS, qx24, forall_const, Int.reduceEq, Int.reduceNeg, Nat.reduceGT, Nat.reduceLT, Nat.reduceLeDiff, Nat.reduceEqDiff, ↓reduceIte, reduceCtorEq, Int.reduceToNat, Int.reduceLE, Int.reduceLT, Nat.reduceAdd, Nat.reduceMul, f0, f1, f6, f29, f30, f31, hlt, hzp, e3, e4, itvc, itone, itsp, itle, ittk, itag, hb3, hE, ff_67]) | refine qqj rfl ?_ | refine qqk rfl ?_)
    obtain ⟨hq1, hq2, hq3⟩ := hpo _ (List.getElem_mem hlt)
    have hsm : ps[j].1 < 24 ∧ ps[j].2.1 ≤ 8 ∧ ps[j].2.2 ≤ 4000 := okI.small ⟨hq1, hq2, hq3⟩ st.rl st.r8 ha
    have hsm1 : ps[j].2.1 ≤ 1000 := by omega
    refine AtCall.by (next_gives st hw3 hS3 ho3 hq1 hq2) ?_
    rintro w n4 H4 hk4 rfl
    have hb4 := (hk4.keep n2 (by omega)).trans hb3
    have hrk4 := hrk3.trans (rc_kp hk4 hw3)
    have hg4 := hg3.kp hw3 hk4
    have kx4 := kx3.trans hk4.kx
    have hsn := doneL_snoc (g := g) (left := lft g x.1) (l := l) hlt
    cases hn : nx g ps[j] with
    | none =>
      rw [hn] at hsn
      rw [if_neg (by simp)] at hsn
      simp (config := {maxSteps:=999999}) only [SS, qx24, forall_const, Int.reduceEq, Int.reduceNeg, Nat.reduceGT, Nat.reduceLT, Nat.reduceLeDiff, Nat.reduceEqDiff, ↓reduceIte, reduceCtorEq, Int.reduceToNat, Int.reduceLE, Int.reduceLT, Nat.reduceAdd, Nat.reduceMul, ff_67]
      repeat (first | refine qqn rfl ?_ | ((first | (refine WK.rgn ?_ ?_; kernel_rfl) | refine AtCall.now ?_); simp (config := {maxSteps:=999999}) only [SS, qx24, forall_const, Int.reduceEq, Int.reduceNeg, Nat.reduceGT, Nat.reduceLT, Nat.reduceLeDiff, Nat.reduceEqDiff, ↓reduceIte, reduceCtorEq, Int.reduceToNat, Int.reduceLE, Int.reduceLT, Nat.reduceAdd, Nat.reduceMul, f0, f1, f6, f29, f30, f31, Option.isSome_none, ff_67]) | refine qqj rfl ?_ | refine qqk rfl ?_)
      refine ih (ps.length - (j + 1)) (by omega) _ ⟨j + 1, kx4, f0, f1, f6, f29, f30, ?_, hlt, hrk4, ?_, rfl⟩
      · simp only [packed, fset_apply, Nat.reduceEqDiff, ↓reduceIte, List.getD_cons_zero, List.getD_cons_succ, ff_67]
        rw [wrap_in (by omega) (by omega)]; rfl
      · rw [hsn]; exact hg4
    | some y0 =>
      rw [hn] at hsn
      by_cases he : y0 = lft g x.1
      · rw [if_pos (by rw [he])] at hsn
        simp (config := {maxSteps:=999999}) only [SS, qx24, forall_const, Int.reduceEq, Int.reduceNeg, Nat.reduceGT, Nat.reduceLT, Nat.reduceLeDiff, Nat.reduceEqDiff, ↓reduceIte, reduceCtorEq, Int.reduceToNat, Int.reduceLE, Int.reduceLT, Nat.reduceAdd, Nat.reduceMul, ff_67]
        repeat (first | refine qqn rfl ?_ | ((first | (refine WK.rgn ?_ ?_; kernel_rfl) | refine AtCall.now ?_); simp (config := {maxSteps:=999999}) only [SS, qx24, forall_const, Int.reduceEq, Int.reduceNeg, Nat.reduceGT, Nat.reduceLT, Nat.reduceLeDiff, Nat.reduceEqDiff, ↓reduceIte, reduceCtorEq, Int.reduceToNat, Int.reduceLE, Int.reduceLT, Nat.reduceAdd, Nat.reduceMul, f0, f1, f6, f29, f30, f31, he, hb4, itup _ hsm1, Option.isSome_some, Option.getD_some, it0, it1, it2, ff_67]) | refine qqj rfl ?_ | refine qqk rfl ?_)
        have hy4 := hg4
        refine AtCall.byX (add_grown (x := upI ps[j]) (kx4.wf hw) (by have := kx4.le; omega) hyN hg4 ⟨by show ps[j].1 ≤ 1000000; omega, by show ps[j].2.1 + 1 ≤ 1000000; omega, by show ps[j].2.2 ≤ 1000000; omega⟩ (small_okL (doneL_ok (ps.take j) (fun p hp => hpo p (List.mem_of_mem_take hp)) hl) st.rl st.r8 ha)) ?_
        rintro w n5 H5 kx5 ⟨hrk5, hg5⟩
        simp (config := {maxSteps:=999999}) only [SS, qx24, forall_const, Int.reduceEq, Int.reduceNeg, Nat.reduceGT, Nat.reduceLT, Nat.reduceLeDiff, Nat.reduceEqDiff, ↓reduceIte, reduceCtorEq, Int.reduceToNat, Int.reduceLE, Int.reduceLT, Nat.reduceAdd, Nat.reduceMul, ff_67]
        repeat (first | refine qqn rfl ?_ | ((first | (refine WK.rgn ?_ ?_; kernel_rfl) | refine AtCall.now ?_); simp (config := {maxSteps:=999999}) only [SS, qx24, forall_const, Int.reduceEq, Int.reduceNeg, Nat.reduceGT, Nat.reduceLT, Nat.reduceLeDiff, Nat.reduceEqDiff, ↓reduceIte, reduceCtorEq, Int.reduceToNat, Int.reduceLE, Int.reduceLT, Nat.reduceAdd, Nat.reduceMul, f31, ff_67]) | refine qqj rfl ?_ | refine qqk rfl ?_)
        refine ih (ps.length - (j + 1)) (by omega) _ ⟨j + 1, kx4.trans kx5, f0, f1, f6, f29, f30, ?_, hlt, ?_, ?_, rfl⟩
        · simp only [packed, fset_apply, Nat.reduceEqDiff, ↓reduceIte, List.getD_cons_zero, List.getD_cons_succ, ff_67]
          rw [wrap_in (by omega) (by omega)]; rfl
        · exact hrk4.trans hrk5
        · rw [hsn]; exact hg5
      · rw [if_neg (by simp [he])] at hsn
        simp (config := {maxSteps:=999999}) only [SS, qx24, forall_const, Int.reduceEq, Int.reduceNeg, Nat.reduceGT, Nat.reduceLT, Nat.reduceLeDiff, Nat.reduceEqDiff, ↓reduceIte, reduceCtorEq, Int.reduceToNat, Int.reduceLE, Int.reduceLT, Nat.reduceAdd, Nat.reduceMul, ff_67]
        repeat (first | refine qqn rfl ?_ | ((first | (refine WK.rgn ?_ ?_; kernel_rfl) | refine AtCall.now ?_); simp (config := {maxSteps:=999999}) only [SS, qx24, forall_const, Int.reduceEq, Int.reduceNeg, Nat.reduceGT, Nat.reduceLT, Nat.reduceLeDiff, Nat.reduceEqDiff, ↓reduceIte, reduceCtorEq, Int.reduceToNat, Int.reduceLE, Int.reduceLT, Nat.reduceAdd, Nat.reduceMul, f0, f1, f6, f29, f30, f31, he, Option.isSome_some, Option.getD_some, ff_67]) | refine qqj rfl ?_ | refine qqk rfl ?_)
        refine ih (ps.length - (j + 1)) (by omega) _ ⟨j + 1, kx4, f0, f1, f6, f29, f30, ?_, hlt, hrk4, ?_, rfl⟩
        · simp only [packed, fset_apply, Nat.reduceEqDiff, ↓reduceIte, List.getD_cons_zero, List.getD_cons_succ, ff_67]
          rw [wrap_in (by omega) (by omega)]; rfl
        · rw [hsn]; exact hg4
  · repeat (first | refine qqn rfl ?_ | ((first | (refine WK.rgn ?_ ?_; kernel_rfl) | refine AtCall.now ?_); simp (config := {maxSteps:=999999}) only [SS, qx24, forall_const, Int.reduceEq, Int.reduceNeg, Nat.reduceGT, Nat.reduceLT, Nat.reduceLeDiff, Nat.reduceEqDiff, ↓reduceIte, reduceCtorEq, Int.reduceToNat, Int.reduceLE, Int.reduceLT, Nat.reduceAdd, Nat.reduceMul, f0, f1, f6, f29, f30, f31, hlt, ff_67]) | refine qqj rfl ?_ | refine qqk rfl ?_)
    (first | refine WK.retNil ⟨Or.inr rfl, _, rfl, ?_, ?_⟩ | refine WK.skipNil ⟨Or.inl rfl, _, rfl, ?_, ?_⟩)
    · exact kx.keep
    · have : j = ps.length := by omega
      subst this
      rw [List.take_length] at hg2
      exact ⟨hrk.trans hrk2, hg2⟩
end Go.Proofs.Ytpdlmpbhohinpaa

namespace Go.Proofs.Ytpdlmpbhohinpaa
open Go.AM
set_option maxRecDepth 100000
theorem isVar_gives (x : Int) (n : Nat) (H : Heap) : Gives Try.prog 41 [.int .i64 x] n H fun v n' H' => v = .bool (decide (0 ≤ x)) ∧ n' = n ∧ H' = H := by
  refine Gives.of orders ok41 (Nat.le_of_ble_eq_true rfl) ?_
  repeat (first | refine qqn rfl ?_ | ((first | (refine WK.rgn ?_ ?_; kernel_rfl) | refine AtCall.now ?_); simp (config := {maxSteps:=999999}) only [SS, qx21, forall_const, simprocAttr]) | refine qqj rfl ?_ | refine qqk rfl ?_)
  (first | refine WK.retNil ⟨Or.inr rfl, _, rfl, ?_, ?_⟩ | refine WK.skipNil ⟨Or.inl rfl, _, rfl, ?_, ?_⟩)
  · exact fun _ _ => rfl
  · simp only [packed, fset_apply, Nat.reduceEqDiff, ↓reduceIte, List.getD_cons_zero, List.getD_cons_succ]
    simp
def countR (l : List GRule) (x : Int) : Nat := (l.filter fun r => decide (r.left = x)).length
theorem count_gives {v : Value} {g : Gram} {x : Int} {n : Nat} {H : Heap} (hw : WF n H) (hg : RG H v g) (wg : WG g) :
    Gives Try.prog 58 [v, .int .i64 x] n H fun v _ _ => v = .int .i64 (countR g.rules x) := by
  obtain ⟨pt, pv, pr, rfl, ht, hv, hr⟩ := hg
  refine Gives.of orders ok58 (Nat.le_of_ble_eq_true rfl) ?_
  have hk := Kp.new n H (.cells (gcells pt pv pr g) 25 true)
  replace hr := hr.mono hw hk
  have hb := hset_at H n (.cells (gcells pt pv pr g) 25 true)
  repeat (first | refine qqn rfl ?_)
  (refine WK.rgn ?_ ?_; kernel_rfl; simp (config := {maxSteps:=999999}) only [SS, qx14, forall_const, simprocAttr, box_cells, box_one, ff_58])
  repeat (first | refine qqn rfl ?_)
  generalize hset H n (.cells (gcells pt pv pr g) 25 true) = H1 at *
  repeat (first | refine qqn rfl ?_ | ((first | (refine WK.rgn ?_ ?_; kernel_rfl) | refine AtCall.now ?_); simp (config := {maxSteps:=999999}) only [SS, qx14, forall_const, simprocAttr, ff_58]) | refine qqj rfl ?_ | refine qqk rfl ?_)
  have hl := wg.rules
  unfold maxL at hl
  refine WK.loop (fun k s => ∃ i c, s.n = n + 1 ∧ s.H = H1 ∧ s.f 1 = .int .i64 x ∧ s.f 2 = .pointer (some ⟨n, 0, none⟩) ∧ s.f 5 = .int .i64 (c : Nat) ∧ s.f 6 = .int .i64 (i : Nat) ∧ i ≤ g.rules.length ∧ c ≤ i ∧ k = g.rules.length - i ∧ c = countR (g.rules.take i) x) g.rules.length ?_ ?_
  · exact ⟨0, 0, rfl, rfl, rfl, rfl, rfl, rfl, Nat.zero_le _, Nat.zero_le _, rfl, rfl⟩
  rintro k ⟨f, n', H'⟩ ⟨i, c, rfl, rfl, f1, f2, f5, f6, hi, hci, rfl, hc⟩ ih
  simp only at f1 f2 f5 f6 ih hr hb
  by_cases hir : i < g.rules.length
  · obtain ⟨y, k, cs, ty, own, p, rfl, hx, c0, c1, c2, hp⟩ := hr.at hir
    have ht : g.rules.take (i + 1) = g.rules.take i ++ [g.rules[i]] := List.take_succ_eq_append_getElem hir
    by_cases he : g.rules[i].left = x
    · repeat (first | refine qqn rfl ?_ | ((first | (refine WK.rgn ?_ ?_; kernel_rfl) | refine AtCall.now ?_); simp (config := {maxSteps:=999999}) only [SS, qx14, forall_const, simprocAttr, f1, f2, f5, f6, hb, gc_2, hir, hx, c0, he, ff_58]) | refine qqj rfl ?_ | refine qqk rfl ?_)
      refine ih (g.rules.length - (i + 1)) (by omega) _ ⟨i + 1, c + 1, rfl, rfl, f1, f2, ?_, ?_, hir, by omega, rfl, ?_⟩
      · simp only [packed, fset_apply, Nat.reduceEqDiff, ↓reduceIte, List.getD_cons_zero, List.getD_cons_succ, ff_58]
        rw [wrap_in (by omega) (by omega)]; rfl
      · simp only [packed, fset_apply, Nat.reduceEqDiff, ↓reduceIte, List.getD_cons_zero, List.getD_cons_succ, f6, ff_58]
        rw [wrap_in (by omega) (by omega)]; rfl
      · rw [ht, hc]; unfold countR; rw [List.filter_append, List.length_append]; simp [he]
    · repeat (first | refine qqn rfl ?_ | ((first | (refine WK.rgn ?_ ?_; kernel_rfl) | refine AtCall.now ?_); simp (config := {maxSteps:=999999}) only [SS, qx14, forall_const, simprocAttr, f1, f2, f5, f6, hb, gc_2, hir, hx, c0, he, ff_58]) | refine qqj rfl ?_ | refine qqk rfl ?_)
      refine ih (g.rules.length - (i + 1)) (by omega) _ ⟨i + 1, c, rfl, rfl, f1, f2, f5, ?_, hir, by omega, rfl, ?_⟩
      · simp only [packed, fset_apply, Nat.reduceEqDiff, ↓reduceIte, List.getD_cons_zero, List.getD_cons_succ, ff_58]
        rw [wrap_in (by omega) (by omega)]; rfl
      · rw [ht, hc]; unfold countR; rw [List.filter_append, List.length_append]; simp [he]
  · repeat (first | refine qqn rfl ?_ | ((first | (refine WK.rgn ?_ ?_; kernel_rfl) | refine AtCall.now ?_); simp (config := {maxSteps:=999999}) only [SS, qx14, forall_const, simprocAttr, f1, f2, f5, f6, hb, gc_2, hir, ff_58]) | refine qqj rfl ?_ | refine qqk rfl ?_)
    (first | refine WK.retNil ⟨Or.inr rfl, _, rfl, ?_, ?_⟩ | refine WK.skipNil ⟨Or.inl rfl, _, rfl, ?_, ?_⟩)
    · exact hk.keep
    · simp only [packed, fset_apply, Nat.reduceEqDiff, ↓reduceIte, List.getD_cons_zero, List.getD_cons_succ, f5, ff_58]
      rw [List.take_of_length_le (by omega)] at hc
      rw [hc]
def usesR (l : List GRule) (x : Int) : Bool := l.any fun r => r.right.any fun s => decide (s = x)
theorem uses_gives {v : Value} {g : Gram} {x : Int} {n : Nat} {H : Heap} (hw : WF n H) (hg : RG H v g) (wg : WG g) :
    Gives Try.prog 59 [v, .int .i64 x] n H fun v _ _ => v = .bool (usesR g.rules x) := by
  obtain ⟨pt, pv, pr, rfl, ht, hv, hr⟩ := hg
  refine Gives.of orders ok59 (Nat.le_of_ble_eq_true rfl) ?_
  have hk := Kp.new n H (.cells (gcells pt pv pr g) 25 true)
  replace hr := hr.mono hw hk
  have hb := hset_at H n (.cells (gcells pt pv pr g) 25 true)
  repeat (first | refine qqn rfl ?_)
  (refine WK.rgn ?_ ?_; kernel_rfl; simp (config := {maxSteps:=999999}) only [SS, qx14, forall_const, simprocAttr, box_cells, box_one, ff_59])
  repeat (first | refine qqn rfl ?_)
  generalize hset H n (.cells (gcells pt pv pr g) 25 true) = H1 at *
  repeat (first | refine qqn rfl ?_ | ((first | (refine WK.rgn ?_ ?_; kernel_rfl) | refine AtCall.now ?_); simp (config := {maxSteps:=999999}) only [SS, qx14, forall_const, simprocAttr, ff_59]) | refine qqj rfl ?_ | refine qqk rfl ?_)
  have hl := wg.rules
  unfold maxL at hl
  refine WK.loop (fun k s => ∃ i, s.n = n + 1 ∧ s.H = H1 ∧ s.f 1 = .int .i64 x ∧ s.f 2 = .pointer (some ⟨n, 0, none⟩) ∧ s.f 5 = .int .i64 (i : Nat) ∧ i ≤ g.rules.length ∧ k = g.rules.length - i ∧ usesR (g.rules.take i) x = false) g.rules.length ?_ ?_
  · exact ⟨0, rfl, rfl, rfl, rfl, rfl, Nat.zero_le _, rfl, rfl⟩
  rintro k ⟨f, n', H'⟩ ⟨i, rfl, rfl, f1, f2, f5, hi, rfl, hc⟩ ih
  simp only at f1 f2 f5 ih hr hb
  by_cases hir : i < g.rules.length
  · obtain ⟨y, k, cs, ty, own, p, rfl, hx, c0, c1, c2, hp⟩ := hr.at hir
    have ht : g.rules.take (i + 1) = g.rules.take i ++ [g.rules[i]] := List.take_succ_eq_append_getElem hir
    obtain ⟨hrl, _⟩ := wg.right _ (List.getElem_mem hir)
    unfold maxL at hrl
    repeat (first | refine qqn rfl ?_ | ((first | (refine WK.rgn ?_ ?_; kernel_rfl) | refine AtCall.now ?_); simp (config := {maxSteps:=999999}) only [SS, qx14, forall_const, simprocAttr, f1, f2, f5, hb, gc_2, hir, ff_59]) | refine qqj rfl ?_ | refine qqk rfl ?_)
    refine WK.loop (fun k s => ∃ j, s.n = n + 1 ∧ s.H = H' ∧ s.f 1 = .int .i64 x ∧ s.f 2 = .pointer (some ⟨n, 0, none⟩) ∧ s.f 5 = .int .i64 (i : Nat) ∧ s.f 6 = .int .i64 (j : Nat) ∧ j ≤ g.rules[i].right.length ∧ k = g.rules[i].right.length - j ∧ (g.rules[i].right.take j).any (fun s => decide (s = x)) = false) g.rules[i].right.length ?_ ?_
    · exact ⟨0, rfl, rfl, f1, f2, f5, rfl, Nat.zero_le _, rfl, rfl⟩
    rintro k' ⟨f', n', H'⟩ ⟨j, rfl, rfl, f1, f2, f5, f6, hj, rfl, hcj⟩ ih2
    simp only at f1 f2 f5 f6 ih2 ih hr hb hx hp
    by_cases hjr : j < g.rules[i].right.length
    · obtain ⟨z, kz, ds, tz, oz, rfl, hz, e⟩ := hp.at hjr
      have htj : g.rules[i].right.take (j + 1) = g.rules[i].right.take j ++ [g.rules[i].right[j]] := List.take_succ_eq_append_getElem hjr
      by_cases he : g.rules[i].right[j] = x
      · repeat (first | refine qqn rfl ?_ | ((first | (refine WK.rgn ?_ ?_; kernel_rfl) | refine AtCall.now ?_); simp (config := {maxSteps:=999999}) only [SS, qx14, forall_const, simprocAttr, f1, f2, f5, f6, hb, gc_2, hir, hx, c1, hjr, hz, e, he, ff_59]) | refine qqj rfl ?_ | refine qqk rfl ?_)
        (first | refine WK.retNil ⟨Or.inr rfl, _, rfl, ?_, ?_⟩ | refine WK.skipNil ⟨Or.inl rfl, _, rfl, ?_, ?_⟩)
        · exact hk.keep
        · simp only [packed, fset_apply, Nat.reduceEqDiff, ↓reduceIte, List.getD_cons_zero, List.getD_cons_succ, ff_59]
          have : usesR g.rules x = true := by
            simp only [usesR, List.any_eq_true]
            exact ⟨_, List.getElem_mem hir, _, List.getElem_mem hjr, by simpa using he⟩
          rw [this]
      · repeat (first | refine qqn rfl ?_ | ((first | (refine WK.rgn ?_ ?_; kernel_rfl) | refine AtCall.now ?_); simp (config := {maxSteps:=999999}) only [SS, qx14, forall_const, simprocAttr, f1, f2, f5, f6, hb, gc_2, hir, hx, c1, hjr, hz, e, he, ff_59]) | refine qqj rfl ?_ | refine qqk rfl ?_)
        refine ih2 (g.rules[i].right.length - (j + 1)) (by omega) _ ⟨j + 1, rfl, rfl, f1, f2, f5, ?_, hjr, rfl, ?_⟩
        · simp only [packed, fset_apply, Nat.reduceEqDiff, ↓reduceIte, List.getD_cons_zero, List.getD_cons_succ, ff_59]
          rw [wrap_in (by omega) (by omega)]; rfl
        · rw [htj, List.any_append, hcj]; simp [he]
    · repeat (first | refine qqn rfl ?_ | ((first | (refine WK.rgn ?_ ?_; kernel_rfl) | refine AtCall.now ?_); simp (config := {maxSteps:=999999}) only [SS, qx14, forall_const, simprocAttr, f1, f2, f5, f6, hb, gc_2, hir, hx, c1, hjr, ff_59]) | refine qqj rfl ?_ | refine qqk rfl ?_)
      refine ih (g.rules.length - (i + 1)) (by omega) _ ⟨i + 1, rfl, rfl, f1, f2, ?_, hir, rfl, ?_⟩
      · simp only [packed, fset_apply, Nat.reduceEqDiff, ↓reduceIte, List.getD_cons_zero, List.getD_cons_succ, ff_59]
        rw [wrap_in (by omega) (by omega)]; rfl
      · rw [List.take_of_length_le (by omega)] at hcj
        rw [ht]; simp only [usesR, List.any_append, List.any_cons, List.any_nil, hcj] at hc ⊢
        simpa using hc
  · repeat (first | refine qqn rfl ?_ | ((first | (refine WK.rgn ?_ ?_; kernel_rfl) | refine AtCall.now ?_); simp (config := {maxSteps:=999999}) only [SS, qx14, forall_const, simprocAttr, f1, f2, f5, hb, gc_2, hir, ff_59]) | refine qqj rfl ?_ | refine qqk rfl ?_)
    (first | refine WK.retNil ⟨Or.inr rfl, _, rfl, ?_, ?_⟩ | refine WK.skipNil ⟨Or.inl rfl, _, rfl, ?_, ?_⟩)
    · exact hk.keep
    · simp only [packed, fset_apply, Nat.reduceEqDiff, ↓reduceIte, List.getD_cons_zero, List.getD_cons_succ, ff_59]
      rw [List.take_of_length_le (by omega)] at hc
      rw [hc]
end Go.Proofs.Ytpdlmpbhohinpaa
