/- A part of a proof. Its conditions: none. -/
import Derived.Test.YtpdlmpbhohinpaaAmCChRep
set_option linter.all false
namespace Go.Proofs.Ytpdlmpbhohinpaa
open Go.AM Go.RowKit
set_option maxRecDepth 100000
def numC (n : Nat) : Value := .int .i64 (n : Int)
structure Stat (S : Heap) (N : Nat) (pr pg pe pc : Option Addr) (g : Gram) (gd em : List Bool) (co : List Nat) : Prop where
  wf : WF N S
  rr : RR S pr g.rules
  gdA : RA .bool S pg gd
  emA : RA .bool S pe em
  coA : RA numC S pc co
  gdL : gd.length = g.rules.length
  emL : em.length = g.vars.length
  coL : co.length = g.vars.length
  rl : g.rules.length ≤ 24
  r8 : ∀ r ∈ g.rules, r.right.length ≤ 8
  sym : ∀ r ∈ g.rules, ∀ s ∈ r.right, inI s ∧ s < g.vars.length
  left : ∀ r ∈ g.rules, 0 ≤ r.left ∧ r.left < g.vars.length
  up : ∀ i j (hi : i < g.rules.length) (hj : j < g.rules.length), i ≤ j → g.rules[i].left ≤ g.rules[j].left
  vl : g.vars.length ≤ 8
def chC (pt pv pr pg pe pc : Option Addr) (g : Gram) (gd em : List Bool) (co : List Nat) (sv wv : Value) : List Value :=
  [.slice pt g.terms.length g.terms.length, .slice pv g.vars.length g.vars.length, .slice pr g.rules.length g.rules.length, .slice pg gd.length gd.length, .slice pe em.length em.length, .slice pc co.length co.length, sv, wv]
section
variable {pt pv pr pg pe pc : Option Addr} {g : Gram} {gd em : List Bool} {co : List Nat} {sv wv : Value}
theorem ch2 : (chC pt pv pr pg pe pc g gd em co sv wv)[2]? = some (.slice pr g.rules.length g.rules.length) := rfl
theorem ch3 : (chC pt pv pr pg pe pc g gd em co sv wv)[3]? = some (.slice pg gd.length gd.length) := rfl
theorem ch4 : (chC pt pv pr pg pe pc g gd em co sv wv)[4]? = some (.slice pe em.length em.length) := rfl
theorem ch5 : (chC pt pv pr pg pe pc g gd em co sv wv)[5]? = some (.slice pc co.length co.length) := rfl
theorem ch6 : (chC pt pv pr pg pe pc g gd em co sv wv)[6]? = some (sv) := rfl
theorem ch7 : (chC pt pv pr pg pe pc g gd em co sv wv)[7]? = some (wv) := rfl
theorem chg : ((chC pt pv pr pg pe pc g gd em co sv wv).drop 0).take 3 = gcells pt pv pr g := rfl
theorem chl : (chC pt pv pr pg pe pc g gd em co sv wv).length = 8 := rfl
end
theorem it0 (x : It) : (itC x)[0]? = some (.int .i64 (x.1 : Nat)) := rfl
theorem it1 (x : It) : (itC x)[1]? = some (.int .i64 (x.2.1 : Nat)) := rfl
theorem it2 (x : It) : (itC x)[2]? = some (.int .i64 (x.2.2 : Nat)) := rfl
theorem itvc (x : It) : vcells (itV x) = itC x := rfl
theorem itone (x : It) : (itC x).all one = true := rfl
theorem ittk (x : It) : ((itC x).drop 0).take 3 = itC x := rfl
theorem itag (x : It) : Value.agg (itC x).toArray = itV x := rfl
theorem itsp (x : It) : Go.AM.splice [Value.int IntKind.i64 (Int.ofNat 0), Value.int IntKind.i64 (Int.ofNat 0), Value.int IntKind.i64 (Int.ofNat 0)] 0 (itC x) = itC x := rfl
theorem itup (x : It) (h : x.2.1 ≤ 1000) : Value.agg #[Value.int .i64 (x.1 : Nat), Value.int .i64 (IntKind.wrap .i64 ((x.2.1 : Nat) + 1)), Value.int .i64 (x.2.2 : Nat)] = itV (upI x) := by
  rw [wrap_in (by omega) (by omega)]; rfl
theorem itle (x : It) : (3 : Nat) ≤ (itC x).length := Nat.le_refl _
theorem rgt_at {g : Gram} {r : Nat} (h : r < g.rules.length) : rgt g r = g.rules[r].right := by
  unfold rgt; rw [List.getElem?_eq_getElem h]; rfl
theorem lft_at {g : Gram} {r : Nat} (h : r < g.rules.length) : lft g r = g.rules[r].left := by
  unfold lft; rw [List.getElem?_eq_getElem h]; rfl
set_option maxHeartbeats 4000000 in
theorem next_gives {S H : Heap} {N o n : Nat} {pt pv pr pg pe pc : Option Addr} {g : Gram} {gd em : List Bool} {co : List Nat} {sv wv : Value} {x : It} (st : Stat S N pr pg pe pc g gd em co) (hw : WF n H) (hS : Sub S H)
    (ho : H o = .cells (chC pt pv pr pg pe pc g gd em co sv wv) 62 true) (hx : x.1 < g.rules.length) (hd : x.2.1 ≤ (rgt g x.1).length) :
    Gives Try.prog 44 [.pointer (some ⟨o, 0, none⟩), itV x] n H fun v _ _ => v = .tuple #[.int .i64 ((nx g x).getD 0), .bool (nx g x).isSome] := by
  refine Gives.of orders ok44 (Nat.le_of_ble_eq_true rfl) ?_
  have hk := Kp.new n H (.cells (itC x) 74 true)
  have hb := hset_at H n (.cells (itC x) 74 true)
  have hon : o < n := Classical.byContradiction fun hc => by rw [hw o (by omega)] at ho; cases ho
  have ho1 := (hk.keep o hon).trans ho
  have hS1 := hS.kp hw hk
  repeat (first | apply qqa | apply qqb | apply qqc | apply qqd | apply qqe | apply qqf | apply qqg | apply qqh | refine qqi rfl ?_)
  (refine WK.rgn ?_ ?_; kernel_rfl; simp (config := { maxSteps := 1000000 }) only [SS, qg0, qgb, qgl, qgi, qgf, forall_const, tor, tlen2, tbox, one, Int.reduceEq, Int.reduceNeg, Nat.reduceGT, Nat.reduceLT, Nat.reduceLeDiff, Nat.reduceEqDiff, ↓reduceIte, reduceCtorEq, Int.reduceToNat, Int.reduceLE, Int.reduceLT, Nat.reduceAdd, Nat.reduceMul, itvc, itone, ff_44])
  generalize hset H n (.cells (itC x) 74 true) = H1 at *
  have hr8 := st.r8 _ (List.getElem_mem hx)
  have hrl := st.rl
  rw [rgt_at hx] at hd
  have hnx : nx g x = g.rules[x.1].right[x.2.1]? := by unfold nx; rw [rgt_at hx]
  obtain ⟨z, kz, ds, tz, oz, p, rfl, hz, c0, c1, c2, hp⟩ := (st.rr.sub hS1).at hx
  by_cases hlt : x.2.1 = g.rules[x.1].right.length
  · have hI : ((x.2.1 : Int) = (g.rules[x.1].right.length : Int)) := by rw [hlt]
    repeat (first | apply qqa | apply qqb | apply qqc | apply qqd | apply qqe | apply qqf | apply qqg | apply qqh | refine qqi rfl ?_ | ((first | (refine WK.rgn ?_ ?_; kernel_rfl) | refine AtCall.now ?_); simp (config := { maxSteps := 1000000 }) only [SS, qg0, qgb, qgl, qgi, qgf, forall_const, tor, tlen2, tbox, one, Int.reduceEq, Int.reduceNeg, Nat.reduceGT, Nat.reduceLT, Nat.reduceLeDiff, Nat.reduceEqDiff, ↓reduceIte, reduceCtorEq, Int.reduceToNat, Int.reduceLE, Int.reduceLT, Nat.reduceAdd, Nat.reduceMul, hb, ho1, ch2, it0, it1, it2, aop_nc, tnc, hx, hz, c1, hI, ff_44]) | refine qqj rfl ?_ | refine qqk rfl ?_)
    (first | refine WK.retNil ⟨Or.inr rfl, _, rfl, ?_, ?_⟩ | refine WK.skipNil ⟨Or.inl rfl, _, rfl, ?_, ?_⟩)
    · exact hk.keep
    · simp only [packed, fset_apply, Nat.reduceEqDiff, ↓reduceIte, List.getD_cons_zero, List.getD_cons_succ, ff_44]
      rw [hnx, List.getElem?_eq_none (by omega)]
      rfl
  · have hI : ((x.2.1 : Int) = (g.rules[x.1].right.length : Int)) = False := by simp; omega
    have hlt2 : x.2.1 < g.rules[x.1].right.length := by omega
    obtain ⟨zz, kk, ds2, tz2, oz2, rfl, hz2, e2⟩ := hp.at hlt2
    repeat (first | apply qqa | apply qqb | apply qqc | apply qqd | apply qqe | apply qqf | apply qqg | apply qqh | refine qqi rfl ?_ | ((first | (refine WK.rgn ?_ ?_; kernel_rfl) | refine AtCall.now ?_); simp (config := { maxSteps := 1000000 }) only [SS, qg0, qgb, qgl, qgi, qgf, forall_const, tor, tlen2, tbox, one, Int.reduceEq, Int.reduceNeg, Nat.reduceGT, Nat.reduceLT, Nat.reduceLeDiff, Nat.reduceEqDiff, ↓reduceIte, reduceCtorEq, Int.reduceToNat, Int.reduceLE, Int.reduceLT, Nat.reduceAdd, Nat.reduceMul, hb, ho1, ch2, it0, it1, it2, aop_nc, tnc, hx, hz, c1, hI, hlt2, hz2, e2, ff_44]) | refine qqj rfl ?_ | refine qqk rfl ?_)
    (first | refine WK.retNil ⟨Or.inr rfl, _, rfl, ?_, ?_⟩ | refine WK.skipNil ⟨Or.inl rfl, _, rfl, ?_, ?_⟩)
    · exact hk.keep
    · simp only [packed, fset_apply, Nat.reduceEqDiff, ↓reduceIte, List.getD_cons_zero, List.getD_cons_succ, ff_44]
      rw [hnx, List.getElem?_eq_getElem hlt2]
      rfl
end Go.Proofs.Ytpdlmpbhohinpaa
