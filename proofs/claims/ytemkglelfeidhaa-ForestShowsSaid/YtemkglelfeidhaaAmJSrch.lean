/- A part of a proof. Its conditions: none. -/
import Derived.Test.YtemkglelfeidhaaAmJChRep
import Derived.Test.YtemkglelfeidhaaAmD
set_option linter.all false
namespace Go.Proofs.Ytemkglelfeidhaa
open Go.AM Go.RowKit
set_option maxRecDepth 100000
def numC (n : Nat) : Value := .int .i64 (n : Int)
structure Stat (S : Heap) (N : Nat) (pr pg pe pc : Option Addr) (g : Gram) (gd em : List Bool) (co : List Nat) : Prop where
 wf : WF N S
 rr : RR S pr g.rules
 gdA : RA .bool S pg gd
 emA : RA .bool S pe em
 coA : RA numC S pc co
 gdL : gd.length = g.rules.length
 emL : em.length = g.vars.length
 coL : co.length = g.vars.length
 rl : g.rules.length ≤ 24
 r8 : ∀ r ∈ g.rules, r.right.length ≤ 8
 sym : ∀ r ∈ g.rules, ∀ s ∈ r.right, inI s ∧ s < g.vars.length
 left : ∀ r ∈ g.rules, 0 ≤ r.left ∧ r.left < g.vars.length
 up : ∀ i j (hi : i < g.rules.length) (hj : j < g.rules.length), i ≤ j → g.rules[i].left ≤ g.rules[j].left
 vl : g.vars.length ≤ 8
def chC (pt pv pr pg pe pc : Option Addr) (g : Gram) (gd em : List Bool) (co : List Nat) (sv wv : Value) : List Value :=
 [.slice pt g.terms.length g.terms.length, .slice pv g.vars.length g.vars.length, .slice pr g.rules.length g.rules.length, .slice pg gd.length gd.length, .slice pe em.length em.length, .slice pc co.length co.length, sv, wv]
section
variable {pt pv pr pg pe pc : Option Addr} {g : Gram} {gd em : List Bool} {co : List Nat} {sv wv : Value}
theorem ch2 : (chC pt pv pr pg pe pc g gd em co sv wv)[2]? = some (.slice pr g.rules.length g.rules.length) := rfl
theorem ch3 : (chC pt pv pr pg pe pc g gd em co sv wv)[3]? = some (.slice pg gd.length gd.length) := rfl
theorem ch4 : (chC pt pv pr pg pe pc g gd em co sv wv)[4]? = some (.slice pe em.length em.length) := rfl
theorem ch6 : (chC pt pv pr pg pe pc g gd em co sv wv)[6]? = some (sv) := rfl
theorem ch7 : (chC pt pv pr pg pe pc g gd em co sv wv)[7]? = some (wv) := rfl
theorem chg : ((chC pt pv pr pg pe pc g gd em co sv wv).drop 0).take 3 = gcells pt pv pr g := rfl
theorem chl : (chC pt pv pr pg pe pc g gd em co sv wv).length = 8 := rfl
end
theorem it0 (x : It) : (itC x)[0]? = some (.int .i64 (x.1 : Nat)) := rfl
theorem it1 (x : It) : (itC x)[1]? = some (.int .i64 (x.2.1 : Nat)) := rfl
theorem it2 (x : It) : (itC x)[2]? = some (.int .i64 (x.2.2 : Nat)) := rfl
theorem itvc (x : It) : vcells (itV x) = itC x := rfl
theorem itone (x : It) : (itC x).all one = true := rfl
theorem ittk (x : It) : ((itC x).drop 0).take 3 = itC x := rfl
theorem itag (x : It) : Value.agg (itC x).toArray = itV x := rfl
theorem itsp (x : It) : Go.AM.splice [Value.int IntKind.i64 (Int.ofNat 0), Value.int IntKind.i64 (Int.ofNat 0), Value.int IntKind.i64 (Int.ofNat 0)] 0 (itC x) = itC x := rfl
theorem itup (x : It) (h : x.2.1 ≤ 1000) : Value.agg #[Value.int .i64 (x.1 : Nat), Value.int .i64 (IntKind.wrap .i64 ((x.2.1 : Nat) + 1)), Value.int .i64 (x.2.2 : Nat)] = itV (upI x) := by
 rw [wrap_in (by omega) (by omega)]; rfl
theorem itle (x : It) : (3 : Nat) ≤ (itC x).length := Nat.le_refl _
theorem rgt_at {g : Gram} {r : Nat} (h : r < g.rules.length) : rgt g r = g.rules[r].right := by
 unfold rgt; rw [List.getElem?_eq_getElem h]; rfl
theorem lft_at {g : Gram} {r : Nat} (h : r < g.rules.length) : lft g r = g.rules[r].left := by
 unfold lft; rw [List.getElem?_eq_getElem h]; rfl
set_option maxHeartbeats 4000000 in
theorem next_gives {S H : Heap} {N o n : Nat} {pt pv pr pg pe pc : Option Addr} {g : Gram} {gd em : List Bool} {co : List Nat} {sv wv : Value} {x : It} (st : Stat S N pr pg pe pc g gd em co) (hw : WF n H) (hS : Sub S H)
  (ho : H o = .cells (chC pt pv pr pg pe pc g gd em co sv wv) 101 true) (hx : x.1 < g.rules.length) (hd : x.2.1 ≤ (rgt g x.1).length) :
  Gives Try.prog 65 [.pointer (some ⟨o, 0, none⟩), itV x] n H fun v _ _ => v = .tuple #[.int .i64 ((nx g x).getD 0), .bool (nx g x).isSome] := by
 refine Gives.of orders ok65 (Nat.le_of_ble_eq_true rfl) ?_
 have hk := Kp.new n H (.cells (itC x) 113 true)
 have hb := hset_at H n (.cells (itC x) 113 true)
 have hon : o < n := Classical.byContradiction fun hc => by rw [hw o (by omega)] at ho; cases ho
 have ho1 := (hk.keep o hon).trans ho
 have hS1 := hS.kp hw hk
 repeat refine qqn rfl ?_
 (refine qqr ?_; simp only [SS, qx7, simprocAttr, itvc, itone, ff_65])
 generalize hset H n (.cells (itC x) 113 true) = H1 at *
 have hr8 := st.r8 _ (List.getElem_mem hx)
 have hrl := st.rl
 rw [rgt_at hx] at hd
 have hnx : nx g x = g.rules[x.1].right[x.2.1]? := by unfold nx; rw [rgt_at hx]
 obtain ⟨z, kz, ds, tz, oz, p, rfl, hz, c0, c1, c2, hp⟩ := (st.rr.sub hS1).at hx
 by_cases hlt : x.2.1 = g.rules[x.1].right.length
 ·have hI : ((x.2.1 : Int) = (g.rules[x.1].right.length : Int)) := by rw [hlt]
  repeat (first | refine qqm rfl ?_ | ((first | refine qqr ?_ | refine qqt ?_); simp only [SS, qx7, simprocAttr, hb, ho1, ch2, it0, it1, it2, aop_nc, tnc, hx, hz, c1, hI, ff_65]))
  (first | refine WK.retNil ⟨Or.inr rfl, _, rfl, ?_, ?_⟩ | refine WK.skipNil ⟨Or.inl rfl, _, rfl, ?_, ?_⟩)
  ·exact hk.keep
  ·simp only [packed, fset_apply, Nat.reduceEqDiff, ↓reduceIte, List.getD_cons_zero, List.getD_cons_succ, ff_65]
   rw [hnx, List.getElem?_eq_none (by omega)]
   rfl
 ·have hI : ((x.2.1 : Int) = (g.rules[x.1].right.length : Int)) = False := by simp; omega
  have hlt2 : x.2.1 < g.rules[x.1].right.length := by omega
  obtain ⟨zz, kk, ds2, tz2, oz2, rfl, hz2, e2⟩ := hp.at hlt2
  repeat (first | refine qqm rfl ?_ | ((first | refine qqr ?_ | refine qqt ?_); simp only [SS, qx7, simprocAttr, hb, ho1, ch2, it0, it1, it2, aop_nc, tnc, hx, hz, c1, hI, hlt2, hz2, e2, ff_65]))
  (first | refine WK.retNil ⟨Or.inr rfl, _, rfl, ?_, ?_⟩ | refine WK.skipNil ⟨Or.inl rfl, _, rfl, ?_, ?_⟩)
  ·exact hk.keep
  ·simp only [packed, fset_apply, Nat.reduceEqDiff, ↓reduceIte, List.getD_cons_zero, List.getD_cons_succ, ff_65]
   rw [hnx, List.getElem?_eq_getElem hlt2]
   rfl
end Go.Proofs.Ytemkglelfeidhaa

namespace Go.Proofs.Ytemkglelfeidhaa
open Go.AM Go.RowKit
set_option maxRecDepth 100000
set_option maxHeartbeats 4000000 in
theorem search_gives {F m n : Nat} {H : Heap} {captured : List Value} {p : Nat → Bool} (hm : m ≤ 1000000) (hmono : ∀ i j, i ≤ j → j < m → p i = true → p j = true)
    (hp : ∀ i n1 H1, i < m → Kp n H n1 H1 → Gives Try.prog F (.int .i64 (i : Nat) :: captured) n1 H1 fun v _ _ => v = .bool (p i)) :
    Gives Try.prog 86 [.int .i64 (m : Nat), .func (.func F) #[] captured.toArray] n H fun v _ _ => ∃ s : Nat, v = .int .i64 s ∧ s ≤ m ∧ (∀ i, i < s → p i = false) ∧ ∀ i, s ≤ i → i < m → p i = true := by
  refine Gives.of orders ok86 (Nat.le_of_ble_eq_true rfl) ?_
  repeat refine qqn rfl ?_
  repeat (first | refine qqm rfl ?_ | ((first | refine qqr ?_ | refine qqt ?_); simp only [SS, qx21, vconv, vun, simprocAttr, ff_86]))
  refine WK.loop (fun k s => ∃ lo hi : Nat, Kp n H s.n s.H ∧ s.f 1 = .func (.func F) #[] captured.toArray ∧ s.f 5 = .int .i64 lo ∧ s.f 6 = .int .i64 hi ∧ lo ≤ hi ∧ hi ≤ m ∧ (∀ i, i < lo → p i = false) ∧ (∀ i, hi ≤ i → i < m → p i = true) ∧ k = hi - lo) m ?_ ?_
  · exact ⟨0, m, .refl n H, rfl, rfl, rfl, Nat.zero_le _, Nat.le_refl _, fun i hi => absurd hi (Nat.not_lt_zero _), fun i h1 h2 => absurd h1 (by omega), rfl⟩
  rintro kk ⟨f, n1, H1⟩ ⟨lo, hi, hk, f1, f5, f6, hle, hhi, hlo, hup, rfl⟩ ih
  simp only at f1 f5 f6 hk ih
  by_cases hlt : lo < hi
  · have hmid : IntKind.i64.wrap ((IntKind.u64.wrap (IntKind.i64.wrap ((lo : Int) + (hi : Int)))).fdiv (2 ^ min 1 IntKind.u64.bits)) = (((lo + hi) / 2 : Nat) : Int) := by
      rw [show (lo : Int) + (hi : Int) = ((lo + hi : Nat) : Int) by omega, wrap_i64n _ (by omega), wrap_u64n, Nat.mod_eq_of_lt (by omega)]
      rw [show min 1 IntKind.u64.bits = 1 from rfl, shr_nat, wrap_i64n _ (by omega)]
    have hh1 : lo ≤ (lo + hi) / 2 := by omega
    have hh2 : (lo + hi) / 2 < hi := by omega
    generalize (lo + hi) / 2 = h at hmid hh1 hh2
    repeat (first | refine qqm rfl ?_ | ((first | refine qqr ?_ | refine qqt ?_); simp only [SS, qx21, vconv, vun, simprocAttr, f1, f5, f6, hlt, hmid, ff_86]))
    refine AtCall.by (hp h n1 H1 (by omega) hk) ?_
    rintro v n2 H2 hk2 rfl
    cases hb : p h with
    | false =>
      simp only [SS, qx21, vconv, vun, simprocAttr, hmid, ff_86]
      repeat (first | refine qqm rfl ?_ | ((first | refine qqr ?_ | refine qqt ?_); simp only [SS, qx21, vconv, vun, simprocAttr, hmid, ff_86]))
      refine ih (hi - (h + 1)) (by omega) _ ⟨h + 1, hi, hk.trans hk2, f1, ?_, f6, by omega, hhi, fun i hi2 => ?_, hup, rfl⟩
      · simp only [packed, fset_apply, Nat.reduceEqDiff, ↓reduceIte, List.getD_cons_zero, List.getD_cons_succ, ff_86]
        rw [wrap_in (by omega) (by omega)]; rfl
      · cases hpi : p i with
        | false => rfl
        | true => rw [hmono i h (by omega) (by omega) hpi] at hb; cases hb
    | true =>
      simp only [SS, qx21, vconv, vun, simprocAttr, hmid, ff_86]
      repeat (first | refine qqm rfl ?_ | ((first | refine qqr ?_ | refine qqt ?_); simp only [SS, qx21, vconv, vun, simprocAttr, hmid, ff_86]))
      refine ih (h - lo) (by omega) _ ⟨lo, h, hk.trans hk2, f1, f5, rfl, hh1, by omega, hlo, fun i h1 h2 => ?_, rfl⟩
      exact hmono h i h1 h2 hb
  · repeat (first | refine qqm rfl ?_ | ((first | refine qqr ?_ | refine qqt ?_); simp only [SS, qx21, vconv, vun, simprocAttr, f1, f5, f6, hlt, ff_86]))
    (first | refine WK.retNil ⟨Or.inr rfl, _, rfl, ?_, ?_⟩ | refine WK.skipNil ⟨Or.inl rfl, _, rfl, ?_, ?_⟩)
    · exact hk.keep
    · simp only [packed, fset_apply, Nat.reduceEqDiff, ↓reduceIte, List.getD_cons_zero, List.getD_cons_succ, f5, ff_86]
      have : lo = hi := by omega
      subst this
      exact ⟨lo, rfl, hhi, hlo, hup⟩
set_option maxHeartbeats 4000000 in
theorem rules1_gives {H : Heap} {n x y i : Nat} {pt pv pr : Option Addr} {g : Gram} {v : Int} (hr : RR H pr g.rules) (hx : H x = .cells (gcells pt pv pr g) 25 true) (hy : H y = .cells [.int .i64 v] 3 true) (hi : i < g.rules.length) :
  Gives Try.prog 87 [.int .i64 (i : Nat), .pointer (some ⟨x, 0, none⟩), .pointer (some ⟨y, 0, none⟩)] n H fun w _ _ => w = .bool (decide (v ≤ lft g i)) := by
 refine Gives.of orders ok87 (Nat.le_of_ble_eq_true rfl) ?_
 obtain ⟨z, kz, ds, tz, oz, p, rfl, hz, c0, c1, c2, hp⟩ := hr.at hi
 have hlf := lft_at hi
 repeat refine qqn rfl ?_
 repeat (first | refine qqm rfl ?_ | ((first | refine qqr ?_ | refine qqt ?_); simp only [SS, qg0, qgb, qgl, qgi, qgf, tor, simprocAttr, hx, hy, gc_2, hz, c0, hi, ff_87]))
 (first | refine WK.retNil ⟨Or.inr rfl, _, rfl, ?_, ?_⟩ | refine WK.skipNil ⟨Or.inl rfl, _, rfl, ?_, ?_⟩)
 ·exact fun _ _ => rfl
 ·simp only [packed, fset_apply, Nat.reduceEqDiff, ↓reduceIte, List.getD_cons_zero, List.getD_cons_succ, ff_87]
  rw [hlf]
set_option maxHeartbeats 8000000 in
theorem rules_gives {H : Heap} {n : Nat} {pt pv pr : Option Addr} {g : Gram} {v : Int} (hw : WF n H) (hr : RR H pr g.rules) (hl : g.rules.length ≤ 24) (up : ∀ i j (hi : i < g.rules.length) (hj : j < g.rules.length), i ≤ j → g.rules[i].left ≤ g.rules[j].left) :
  Gives Try.prog 74 [.agg (gcells pt pv pr g).toArray, .int .i64 v] n H fun w _ _ => ∃ a b : Nat, w = .tuple #[.int .i64 a, .int .i64 b] ∧ a ≤ b ∧ b ≤ g.rules.length ∧ (∀ r, r < a → lft g r ≠ v) ∧ (∀ r, a ≤ r → r < b → lft g r = v) ∧ ∀ r, b ≤ r → r < g.rules.length → lft g r ≠ v := by
 refine Gives.of orders ok74 (Nat.le_of_ble_eq_true rfl) ?_
 have hk1 := Kp.new n H (.cells (gcells pt pv pr g) 25 true)
 have hb1 := hset_at H n (.cells (gcells pt pv pr g) 25 true)
 have hr1 := hr.mono hw hk1
 have hw1 := hk1.wf hw
 repeat refine qqn rfl ?_
 (refine qqr ?_; simp only [SS, qx0, simprocAttr, box_cells, box_one, ff_74])
 generalize hset H n (.cells (gcells pt pv pr g) 25 true) = H1 at *
 have hk2 := Kp.new (n + 1) H1 (.cells [.int .i64 v] 3 true)
 have hb2 := hset_at H1 (n + 1) (.cells [.int .i64 v] 3 true)
 have hb12 := (hk2.keep n (by omega)).trans hb1
 have hr2 := hr1.mono hw1 hk2
 have hw2 := hk2.wf hw1
 have hk := hk1.trans hk2
 generalize hset H1 (n + 1) (.cells [.int .i64 v] 3 true) = H2 at *
 repeat (first | refine qqm rfl ?_ | ((first | refine qqr ?_ | refine qqt ?_); simp only [SS, qx0, simprocAttr, hb12, hb2, gc_2, ff_74]))
 have hse := search_gives (n := n + 1 + 1) (H := H2) (F := 87) (m := g.rules.length) (captured := [.pointer (some ⟨n, 0, none⟩), .pointer (some ⟨n + 1, 0, none⟩)]) (p := fun i => decide (v ≤ lft g i)) (by omega)
  (fun i j hij hj hp => by
   have hi : i < g.rules.length := by omega
   simp only [decide_eq_true_eq] at hp ⊢
   rw [lft_at hi] at hp
   rw [lft_at hj]
   exact Int.le_trans hp (up i j hi hj hij))
  (fun i n1 H1 hi k => rules1_gives (hr2.mono hw2 k) ((k.keep _ (by omega)).trans hb12) ((k.keep _ (by omega)).trans hb2) hi)
 refine AtCall.by hse ?_
 rintro w n3 H3 hk3 ⟨s, rfl, hs1, hs2, hs3⟩
 have hb13 := (hk3.keep n (by omega)).trans hb12
 have hb23 := (hk3.keep (n + 1) (by omega)).trans hb2
 have hr3 := hr2.mono hw2 hk3
 simp only [SS, qx0, simprocAttr, ff_74]
 repeat (first | refine qqm rfl ?_ | ((first | refine qqr ?_ | refine qqt ?_); simp only [SS, qx0, simprocAttr, ff_74]))
 have hs2' : ∀ r, r < s → lft g r ≠ v := fun r hr hq => by have := hs2 r hr; simp only [decide_eq_false_iff_not] at this; omega
 refine WK.loop (fun k s2 => ∃ j : Nat, s2.n = n3 ∧ s2.H = H3 ∧ s2.f 2 = .pointer (some ⟨n, 0, none⟩) ∧ s2.f 3 = .pointer (some ⟨n + 1, 0, none⟩) ∧ s2.f 6 = .int .i64 (s : Nat) ∧ s2.f 7 = .int .i64 (j : Nat) ∧ s ≤ j ∧ j ≤ g.rules.length ∧ (∀ r, s ≤ r → r < j → lft g r = v) ∧ k = g.rules.length - j) (g.rules.length - s) ?_ ?_
 ·exact ⟨s, rfl, rfl, rfl, rfl, rfl, rfl, Nat.le_refl _, hs1, fun r h1 h2 => absurd h1 (by omega), rfl⟩
 rintro kk ⟨f, n', H'⟩ ⟨j, rfl, rfl, f2, f3, f6, f7, hsj, hj, he, rfl⟩ ih
 simp only at f2 f3 f6 f7 ih hb13 hb23 hr3 hk3
 by_cases hjr : j < g.rules.length
 ·obtain ⟨z, kz, ds, tz, oz, p, rfl, hz, c0, c1, c2, hp⟩ := hr3.at hjr
  have hlf := lft_at hjr
  by_cases hq : g.rules[j].left = v
  ·repeat (first | refine qqm rfl ?_ | ((first | refine qqr ?_ | refine qqt ?_); simp only [SS, qx0, simprocAttr, f2, f3, f6, f7, hb13, hb23, gc_2, hjr, hz, c0, hq, ff_74]))
   refine ih (g.rules.length - (j + 1)) (by omega) _ ⟨j + 1, rfl, rfl, f2, f3, f6, ?_, by omega, hjr, fun r h1 h2 => ?_, rfl⟩
   ·simp only [packed, fset_apply, Nat.reduceEqDiff, ↓reduceIte, List.getD_cons_zero, List.getD_cons_succ, ff_74]
    rw [wrap_in (by omega) (by omega)]; rfl
   ·rcases Nat.lt_or_ge r j with h | h
    ·exact he r h1 h
    ·have : r = j := by omega
     subst this
     rw [hlf]; exact hq
  ·repeat (first | refine qqm rfl ?_ | ((first | refine qqr ?_ | refine qqt ?_); simp only [SS, qx0, simprocAttr, f2, f3, f6, f7, hb13, hb23, gc_2, hjr, hz, c0, hq, ff_74]))
   (first | refine WK.retNil ⟨Or.inr rfl, _, rfl, ?_, ?_⟩ | refine WK.skipNil ⟨Or.inl rfl, _, rfl, ?_, ?_⟩)
   ·exact fun z hz => ((hk.trans hk3).keep z hz)
   ·simp only [packed, fset_apply, Nat.reduceEqDiff, ↓reduceIte, List.getD_cons_zero, List.getD_cons_succ, f6, f7, ff_74]
    refine ⟨s, j, rfl, hsj, hj, hs2', he, fun r h1 h2 he2 => ?_⟩
    have h3 := up j r hjr h2 h1
    have h4 := hs3 j hsj hjr
    simp only [decide_eq_true_eq] at h4
    rw [lft_at h2] at he2
    rw [hlf] at h4
    exact hq (by omega)
 ·repeat (first | refine qqm rfl ?_ | ((first | refine qqr ?_ | refine qqt ?_); simp only [SS, qx0, simprocAttr, f2, f3, f6, f7, hb13, hb23, gc_2, hjr, ff_74]))
  (first | refine WK.retNil ⟨Or.inr rfl, _, rfl, ?_, ?_⟩ | refine WK.skipNil ⟨Or.inl rfl, _, rfl, ?_, ?_⟩)
  ·exact fun z hz => ((hk.trans hk3).keep z hz)
  ·simp only [packed, fset_apply, Nat.reduceEqDiff, ↓reduceIte, List.getD_cons_zero, List.getD_cons_succ, f6, f7, ff_74]
   exact ⟨s, j, rfl, hsj, hj, hs2', he, fun r h1 h2 => absurd h2 (by omega)⟩
end Go.Proofs.Ytemkglelfeidhaa
