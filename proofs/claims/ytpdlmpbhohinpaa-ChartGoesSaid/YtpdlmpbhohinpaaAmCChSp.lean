/- A part of a proof. Its conditions: none. -/
import Derived.Test.YtpdlmpbhohinpaaAmCChNew
import Derived.Test.YtpdlmpbhohinpaaAmC
import Derived.Test.YtpdlmpbhohinpaaAmCChCuts
set_option linter.all false
namespace Go.Proofs.Ytpdlmpbhohinpaa
open Go.AM Go.RowKit
set_option maxRecDepth 100000
def RRO (H : Heap) (a : Option Addr) (l : List GRule) : Prop := ∀ i (hi : i < l.length), ∃ z kz ds ty own p, a = some ⟨z, kz, none⟩ ∧ H z = .cells ds ty own ∧ ds[kz + i * 3 + 1]? = some (.slice p l[i].right.length l[i].right.length) ∧ RS (Value.int .i64) H p l[i].right ∧ AO H p
theorem rro_of {H : Heap} {a : Option Addr} {l : List GRule} (h : RR H a l) (ho : AllRO H) : RRO H a l := fun i hi => by
  obtain ⟨x, k, cs, ty, own, p, e1, e2, c1, c2, c3, c4⟩ := h.atS hi
  exact ⟨x, k, cs, ty, own, p, e1, e2, c2, c4, fun y k sp hp cs ty own hy => ho y cs ty own hy⟩
theorem RRO.sub {S H : Heap} {a : Option Addr} {l : List GRule} (h : RRO S a l) (hs : Sub S H) : RRO H a l := fun i hi => by
  obtain ⟨z, kz, ds, ty, own, p, e1, e2, e3, e4, e5⟩ := h i hi
  refine ⟨z, kz, ds, ty, own, p, e1, hs.at e2, e3, e4.sub hs, fun x k sp hp cs ty own hx => ?_⟩
  rcases e4 with ⟨rfl, _⟩ | ⟨x2, k2, cs2, ty2, own2, f1, f2, _⟩
  · cases hp
  · have hp' := hp
    rw [f1] at hp'
    cases hp'
    have := hs.at f2
    rw [hx] at this
    cases this
    exact e5 x _ _ hp _ _ _ f2
theorem aop_slnil2 {P : Program} {f : Fr} {n : Nat} {H : Heap} {d : Option Nat} {t e : TypeId} {x h : Operand} {ty : TypeId} {p : String} {af : Array Edge} {gd : Option (Nat × Bool)} (he : P.underlying t = some (.slice e)) (hj : (P.info? e).isSome = true) (hx : evalA f x = .slice none 0 0) (hh : evalA f h = .int .i64 ((0 : Nat) : Int)) :
    aop P (evalA f) n H ⟨d, .slice t x (some h) none none, ty, p, af, gd⟩ = some { v := .slice none 0 0 } := by
  show (match evalA f x with | .slice a b c => aslice P H t (.slice a b c) (Option.map (evalA f) (some h)) (Option.map (evalA f) none) | .pointer a => _ | _ => _) = _
  rw [hx]
  show aslice P H t (.slice none 0 0) (some (evalA f h)) none = _
  rw [hh]
  unfold aslice
  rw [he]
  obtain ⟨j, hj⟩ := Option.isSome_iff_exists.1 hj
  simp only [hj]
  rfl
set_option maxHeartbeats 8000000 in
theorem rest_gives {S H : Heap} {N o n d : Nat} {pt pv pr pg pe pc : Option Addr} {g : Gram} {gd em : List Bool} {co : List Nat} {sv wv : Value} {x : It} (st : Stat S N pr pg pe pc g gd em co) (hro : RRO S pr g.rules) (hw : WF n H) (hS : Sub S H)
    (ho : H o = .cells (chC pt pv pr pg pe pc g gd em co sv wv) 62 true) (hx : x.1 < g.rules.length) (hd : d ≤ (rgt g x.1).length) (hcap : ∀ k ∈ co, k ≤ farN) :
    Gives Try.prog 49 [.pointer (some ⟨o, 0, none⟩), itV x, .int .i64 (d : Nat)] n H fun v _ _ => v = .int .i64 (restN g (cF co) x d : Nat) := by
  refine Gives.of orders ok49 (Nat.le_of_ble_eq_true rfl) ?_
  have hk := Kp.new n H (.cells (itC x) 74 true)
  have hb := hset_at H n (.cells (itC x) 74 true)
  have hon : o < n := Classical.byContradiction fun hc => by rw [hw o (by omega)] at ho; cases ho
  have ho1 := (hk.keep o hon).trans ho
  have hS1 := hS.kp hw hk
  repeat (first | apply qqa | apply qqb | apply qqc | apply qqd | apply qqe | apply qqf | apply qqg | apply qqh | refine qqi rfl ?_)
  (refine WK.rgn ?_ ?_; kernel_rfl; simp (config := { maxSteps := 1000000 }) only [SS, qg0, qgb, qgl, qgi, qgf, qgx, forall_const, tor, tlen2, tbox, one, Int.reduceEq, Int.reduceNeg, Nat.reduceGT, Nat.reduceLT, Nat.reduceLeDiff, Nat.reduceEqDiff, ↓reduceIte, reduceCtorEq, Int.reduceToNat, Int.reduceLE, Int.reduceLT, Nat.reduceAdd, Nat.reduceMul, itvc, itone, ff_49])
  generalize hset H n (.cells (itC x) 74 true) = H1 at *
  have hr8 := st.r8 _ (List.getElem_mem hx)
  have hrl := st.rl
  unfold restN
  rw [rgt_at hx] at hd ⊢
  obtain ⟨z, kz, ds, tz, oz, p, rfl, hz, c1, hp, hao⟩ := (hro.sub hS1) _ hx
  have hcoL := st.coL
  rcases hp with ⟨rfl, hnil⟩ | ⟨zp, kp, dsp, tp, op, rfl, hzp, hlp, hep⟩
  · have hd0 : d = 0 := by rw [hnil] at hd; simpa using hd
    subst hd0
    rw [hnil] at c1 ⊢
    have h00 : ((0 : Nat) < 0) = False := by simp
    repeat (first | apply qqa | apply qqb | apply qqc | apply qqd | apply qqe | apply qqf | apply qqg | apply qqh | refine qqi rfl ?_ | ((first | (refine WK.rgn ?_ ?_; kernel_rfl) | refine AtCall.now ?_); simp (config := { maxSteps := 1000000 }) only [SS, qg0, qgb, qgl, qgi, qgf, qgx, forall_const, tor, tlen2, tbox, one, Int.reduceEq, Int.reduceNeg, Nat.reduceGT, Nat.reduceLT, Nat.reduceLeDiff, Nat.reduceEqDiff, ↓reduceIte, reduceCtorEq, Int.reduceToNat, Int.reduceLE, Int.reduceLT, Nat.reduceAdd, Nat.reduceMul, hb, ho1, ch2, it0, it1, it2, aop_nc, tnc, hx, hz, c1, List.length_nil, aop_slnil2 und_26 inf_int, ff_49]) | (refine qqj ?_ ?_; focus (simp only [qqs, Nat.reduceEqDiff, ↓reduceIte, hb, ho1, ch2, it0, it1, it2, aop_nc, tnc, hx, hz, c1, List.length_nil, aop_slnil2 und_26 inf_int, ff_49]; done)) | (refine qqk ?_ ?_; focus (simp only [qqs, Nat.reduceEqDiff, ↓reduceIte, hb, ho1, ch2, it0, it1, it2, aop_nc, tnc, hx, hz, c1, List.length_nil, aop_slnil2 und_26 inf_int, ff_49]; done)))
    refine WK.loop (fun k s => s.n = n + 1 ∧ s.H = H1 ∧ s.f 22 = .int .i64 ((0 : Nat) : Int) ∧ s.f 23 = .int .i64 ((0 : Nat) : Int) ∧ s.f 7 = .int .i64 ((0 : Nat) : Int)) 0 ?_ ?_
    · exact ⟨rfl, rfl, rfl, rfl, rfl⟩
    rintro kk ⟨f, n2, H2⟩ ⟨rfl, rfl, f22, f23, f7⟩ ih
    simp only at f22 f23 f7 hk
    repeat (first | apply qqa | apply qqb | apply qqc | apply qqd | apply qqe | apply qqf | apply qqg | apply qqh | refine qqi rfl ?_ | ((first | (refine WK.rgn ?_ ?_; kernel_rfl) | refine AtCall.now ?_); simp (config := { maxSteps := 1000000 }) only [SS, qg0, qgb, qgl, qgi, qgf, qgx, forall_const, tor, tlen2, tbox, one, Int.reduceEq, Int.reduceNeg, Nat.reduceGT, Nat.reduceLT, Nat.reduceLeDiff, Nat.reduceEqDiff, ↓reduceIte, reduceCtorEq, Int.reduceToNat, Int.reduceLE, Int.reduceLT, Nat.reduceAdd, Nat.reduceMul, f22, f23, f7, h00, ff_49]) | (refine qqj ?_ ?_; focus (simp only [qqs, Nat.reduceEqDiff, ↓reduceIte, f22, f23, f7, h00, ff_49]; done)) | (refine qqk ?_ ?_; focus (simp only [qqs, Nat.reduceEqDiff, ↓reduceIte, f22, f23, f7, h00, ff_49]; done)))
    (first | refine WK.retNil ⟨Or.inr rfl, _, rfl, ?_, ?_⟩ | refine WK.skipNil ⟨Or.inl rfl, _, rfl, ?_, ?_⟩)
    · exact hk.keep
    · simp only [packed, fset_apply, Nat.reduceEqDiff, ↓reduceIte, List.getD_cons_zero, List.getD_cons_succ, f7, ff_49]
      rfl
  · have hop : op = false := hao _ _ _ rfl _ _ _ hzp
    subst hop
    repeat (first | apply qqa | apply qqb | apply qqc | apply qqd | apply qqe | apply qqf | apply qqg | apply qqh | refine qqi rfl ?_ | ((first | (refine WK.rgn ?_ ?_; kernel_rfl) | refine AtCall.now ?_); simp (config := { maxSteps := 1000000 }) only [SS, qg0, qgb, qgl, qgi, qgf, qgx, forall_const, tor, tlen2, tbox, one, Int.reduceEq, Int.reduceNeg, Nat.reduceGT, Nat.reduceLT, Nat.reduceLeDiff, Nat.reduceEqDiff, ↓reduceIte, reduceCtorEq, Int.reduceToNat, Int.reduceLE, Int.reduceLT, Nat.reduceAdd, Nat.reduceMul, hb, ho1, ch2, it0, it1, it2, aop_nc, tnc, hx, hz, c1, hzp, hd, false_implies, Bool.false_eq_true, ff_49]) | (refine qqj ?_ ?_; focus (simp only [qqs, Nat.reduceEqDiff, ↓reduceIte, hb, ho1, ch2, it0, it1, it2, aop_nc, tnc, hx, hz, c1, hzp, hd, false_implies, Bool.false_eq_true, ff_49]; done)) | (refine qqk ?_ ?_; focus (simp only [qqs, Nat.reduceEqDiff, ↓reduceIte, hb, ho1, ch2, it0, it1, it2, aop_nc, tnc, hx, hz, c1, hzp, hd, false_implies, Bool.false_eq_true, ff_49]; done)))
    have hLl : (g.rules[x.1].right.drop d).length = g.rules[x.1].right.length - d := List.length_drop
    have hLe : ∀ (i : Nat) (y : Int), (g.rules[x.1].right.drop d)[i]? = some y → dsp[kp + d + i]? = some (.int .i64 y) := fun i y e => by
      rw [List.getElem?_drop] at e
      rw [Nat.add_assoc]; exact hep _ _ e
    have hLs : ∀ s ∈ g.rules[x.1].right.drop d, inI s ∧ s < g.vars.length := fun s hs => st.sym _ (List.getElem_mem hx) s (List.mem_of_mem_drop hs)
    have hL8 : (g.rules[x.1].right.drop d).length ≤ 8 := by rw [hLl]; omega
    rw [← hLl]
    generalize g.rules[x.1].right.drop d = L at *
    refine WK.loop (fun k2 s => ∃ j : Nat, s.n = n + 1 ∧ s.H = H1 ∧ s.f 0 = .pointer (some ⟨o, 0, none⟩) ∧ s.f 21 = .slice (some ⟨zp, kp + d, none⟩) L.length L.length ∧ s.f 22 = .int .i64 (L.length : Nat) ∧ s.f 23 = .int .i64 (j : Nat) ∧ s.f 7 = .int .i64 (sumF (cF co) 0 (L.take j) : Nat) ∧ j ≤ L.length ∧ k2 = L.length - j) L.length ?_ ?_
    · exact ⟨0, rfl, rfl, rfl, rfl, rfl, rfl, rfl, Nat.zero_le _, rfl⟩
    rintro kk ⟨f, n2, H2⟩ ⟨j, rfl, rfl, f0, f21, f22, f23, f7, hj, rfl⟩ ih
    simp only at f0 f21 f22 f23 f7 ih ho1 hzp hk hS1
    by_cases hlt : j < L.length
    · have hLj := hLe j _ (List.getElem?_eq_getElem hlt)
      have htj : L.take (j + 1) = L.take j ++ [L[j]] := List.take_succ_eq_append_getElem hlt
      have hsn := sumF_snoc (cF co) (L.take j) 0 L[j]
      rw [← htj] at hsn
      have hle := sumF_le (cF co) (L.take j) 0
      rw [List.length_take] at hle
      have hwj : IntKind.wrap .i64 ((j : Int) + 1) = ((j + 1 : Nat) : Int) := by rw [wrap_in (by omega) (by omega)]; rfl
      have hfar : farN = 1073741824 := rfl
      obtain ⟨hs1, hs2⟩ := hLs _ (List.getElem_mem hlt)
      generalize sumF (cF co) 0 (L.take j) = a at *
      repeat (first | apply qqa | apply qqb | apply qqc | apply qqd | apply qqe | apply qqf | apply qqg | apply qqh | refine qqi rfl ?_ | ((first | (refine WK.rgn ?_ ?_; kernel_rfl) | refine AtCall.now ?_); simp (config := { maxSteps := 1000000 }) only [SS, qg0, qgb, qgl, qgi, qgf, qgx, forall_const, tor, tlen2, tbox, one, Int.reduceEq, Int.reduceNeg, Nat.reduceGT, Nat.reduceLT, Nat.reduceLeDiff, Nat.reduceEqDiff, ↓reduceIte, reduceCtorEq, Int.reduceToNat, Int.reduceLE, Int.reduceLT, Nat.reduceAdd, Nat.reduceMul, f0, f21, f22, f23, f7, hlt, hzp, hLj, ff_49]) | (refine qqj ?_ ?_; focus (simp only [qqs, Nat.reduceEqDiff, ↓reduceIte, f0, f21, f22, f23, f7, hlt, hzp, hLj, ff_49]; done)) | (refine qqk ?_ ?_; focus (simp only [qqs, Nat.reduceEqDiff, ↓reduceIte, f0, f21, f22, f23, f7, hlt, hzp, hLj, ff_49]; done)))
      refine AtCall.by (isVar_gives _ _ _) ?_
      rintro v n3 H3 hk3 ⟨rfl, rfl, rfl⟩
      by_cases h0 : 0 ≤ L[j]
      · obtain ⟨s, hs⟩ := Int.eq_ofNat_of_zero_le h0
        have hsl : s < co.length := by rw [hcoL]; omega
        obtain ⟨zc, kc, dc, tc, oc, rfl, hzc, ec⟩ := (st.coA.sub hS1).at hsl
        have hcs : cF co s = co[s] := by simp [cF, hsl]
        have hcc := hcap _ (List.getElem_mem hsl)
        rw [if_neg (by omega), hs, Int.toNat_natCast, hcs] at hsn
        have hadd : IntKind.wrap .i64 ((a : Int) + (co[s] : Int)) = ((a + co[s] : Nat) : Int) := by rw [wrap_in (by omega) (by omega)]; rfl
        have hmin : (if (1073741824 : Int) < ((a + co[s] : Nat) : Int) then (1073741824 : Int) else ((a + co[s] : Nat) : Int)) = ((min (a + co[s]) farN : Nat) : Int) := by rw [hfar]; split <;> omega
        have h0s : (0 : Int) ≤ (s : Int) := by omega
        simp (config := { maxSteps := 1000000 }) only [SS, qg0, qgb, qgl, qgi, qgf, qgx, forall_const, tor, tlen2, tbox, one, Int.reduceEq, Int.reduceNeg, Nat.reduceGT, Nat.reduceLT, Nat.reduceLeDiff, Nat.reduceEqDiff, ↓reduceIte, reduceCtorEq, Int.reduceToNat, Int.reduceLE, Int.reduceLT, Nat.reduceAdd, Nat.reduceMul, hs, h0s, ff_49]
        repeat (first | apply qqa | apply qqb | apply qqc | apply qqd | apply qqe | apply qqf | apply qqg | apply qqh | refine qqi rfl ?_ | ((first | (refine WK.rgn ?_ ?_; kernel_rfl) | refine AtCall.now ?_); simp (config := { maxSteps := 1000000 }) only [SS, qg0, qgb, qgl, qgi, qgf, qgx, forall_const, tor, tlen2, tbox, one, Int.reduceEq, Int.reduceNeg, Nat.reduceGT, Nat.reduceLT, Nat.reduceLeDiff, Nat.reduceEqDiff, ↓reduceIte, reduceCtorEq, Int.reduceToNat, Int.reduceLE, Int.reduceLT, Nat.reduceAdd, Nat.reduceMul, f0, f23, f7, hs, h0s, ho1, ch5, hsl, hzc, ec, aop_nc, tnc, numC, hadd, aop_min, tmm, Bool.false_eq_true, hmin, hwj, ff_49]) | (refine qqj ?_ ?_; focus (simp only [qqs, Nat.reduceEqDiff, ↓reduceIte, f0, f23, f7, hs, h0s, ho1, ch5, hsl, hzc, ec, aop_nc, tnc, numC, hadd, aop_min, tmm, Bool.false_eq_true, hmin, hwj, ff_49]; done)) | (refine qqk ?_ ?_; focus (simp only [qqs, Nat.reduceEqDiff, ↓reduceIte, f0, f23, f7, hs, h0s, ho1, ch5, hsl, hzc, ec, aop_nc, tnc, numC, hadd, aop_min, tmm, Bool.false_eq_true, hmin, hwj, ff_49]; done)))
        refine ih (L.length - (j + 1)) (by omega) _ ⟨j + 1, rfl, rfl, f0, f21, f22, ?_, ?_, hlt, rfl⟩
        · simp only [packed, fset_apply, Nat.reduceEqDiff, ↓reduceIte, List.getD_cons_zero, List.getD_cons_succ, f23, hwj, ff_49]
        · simp only [packed, fset_apply, Nat.reduceEqDiff, ↓reduceIte, List.getD_cons_zero, List.getD_cons_succ, ff_49]
          rw [hsn]
      · rw [if_pos (by omega)] at hsn
        have hadd : IntKind.wrap .i64 ((a : Int) + 1) = ((a + 1 : Nat) : Int) := by rw [wrap_in (by omega) (by omega)]; rfl
        simp (config := { maxSteps := 1000000 }) only [SS, qg0, qgb, qgl, qgi, qgf, qgx, forall_const, tor, tlen2, tbox, one, Int.reduceEq, Int.reduceNeg, Nat.reduceGT, Nat.reduceLT, Nat.reduceLeDiff, Nat.reduceEqDiff, ↓reduceIte, reduceCtorEq, Int.reduceToNat, Int.reduceLE, Int.reduceLT, Nat.reduceAdd, Nat.reduceMul, ff_49]
        repeat (first | apply qqa | apply qqb | apply qqc | apply qqd | apply qqe | apply qqf | apply qqg | apply qqh | refine qqi rfl ?_ | ((first | (refine WK.rgn ?_ ?_; kernel_rfl) | refine AtCall.now ?_); simp (config := { maxSteps := 1000000 }) only [SS, qg0, qgb, qgl, qgi, qgf, qgx, forall_const, tor, tlen2, tbox, one, Int.reduceEq, Int.reduceNeg, Nat.reduceGT, Nat.reduceLT, Nat.reduceLeDiff, Nat.reduceEqDiff, ↓reduceIte, reduceCtorEq, Int.reduceToNat, Int.reduceLE, Int.reduceLT, Nat.reduceAdd, Nat.reduceMul, f0, f23, f7, h0, hadd, hwj, ff_49]) | (refine qqj ?_ ?_; focus (simp only [qqs, Nat.reduceEqDiff, ↓reduceIte, f0, f23, f7, h0, hadd, hwj, ff_49]; done)) | (refine qqk ?_ ?_; focus (simp only [qqs, Nat.reduceEqDiff, ↓reduceIte, f0, f23, f7, h0, hadd, hwj, ff_49]; done)))
        refine ih (L.length - (j + 1)) (by omega) _ ⟨j + 1, rfl, rfl, f0, f21, f22, ?_, ?_, hlt, rfl⟩
        · simp only [packed, fset_apply, Nat.reduceEqDiff, ↓reduceIte, List.getD_cons_zero, List.getD_cons_succ, f23, hwj, ff_49]
        · simp only [packed, fset_apply, Nat.reduceEqDiff, ↓reduceIte, List.getD_cons_zero, List.getD_cons_succ, ff_49]
          rw [hsn]
    · have hje : j = L.length := by omega
      repeat (first | apply qqa | apply qqb | apply qqc | apply qqd | apply qqe | apply qqf | apply qqg | apply qqh | refine qqi rfl ?_ | ((first | (refine WK.rgn ?_ ?_; kernel_rfl) | refine AtCall.now ?_); simp (config := { maxSteps := 1000000 }) only [SS, qg0, qgb, qgl, qgi, qgf, qgx, forall_const, tor, tlen2, tbox, one, Int.reduceEq, Int.reduceNeg, Nat.reduceGT, Nat.reduceLT, Nat.reduceLeDiff, Nat.reduceEqDiff, ↓reduceIte, reduceCtorEq, Int.reduceToNat, Int.reduceLE, Int.reduceLT, Nat.reduceAdd, Nat.reduceMul, f0, f21, f22, f23, f7, hlt, ff_49]) | (refine qqj ?_ ?_; focus (simp only [qqs, Nat.reduceEqDiff, ↓reduceIte, f0, f21, f22, f23, f7, hlt, ff_49]; done)) | (refine qqk ?_ ?_; focus (simp only [qqs, Nat.reduceEqDiff, ↓reduceIte, f0, f21, f22, f23, f7, hlt, ff_49]; done)))
      (first | refine WK.retNil ⟨Or.inr rfl, _, rfl, ?_, ?_⟩ | refine WK.skipNil ⟨Or.inl rfl, _, rfl, ?_, ?_⟩)
      · exact hk.keep
      · simp only [packed, fset_apply, Nat.reduceEqDiff, ↓reduceIte, List.getD_cons_zero, List.getD_cons_succ, f7, ff_49]
        rw [hje, List.take_length]
end Go.Proofs.Ytpdlmpbhohinpaa

namespace Go.Proofs.Ytpdlmpbhohinpaa
open Go.AM Go.RowKit
set_option maxRecDepth 100000
theorem keyOf_13 {P : Program} {kt kx ti : TypeId} {fs gs : Array Field} (hu : P.underlying kt = some (.struct fs)) (hg : P.underlying kx = some (.struct gs)) (hk : P.keyType kt = true) (hn : fs.all (·.name != "_") = true) (hm : gs.all (·.name != "_") = true) (hs : 1 < P.types.size) (hti : P.underlying ti = some (.int .i64)) (hc : P.cellsOf ti = 1) (h3 : P.cellsOf kx = 3) (h4 : P.cellsOf kt = 4)
    (hf : fs.toList.map (fun f => (f.type, f.offset)) = [(ti, 0), (kx, 1)]) (hf2 : gs.toList.map (fun f => (f.type, f.offset)) = [(ti, 0), (ti, 1), (ti, 2)]) {a b c e : Int} (ha : (Lit.int .i64 a).wf = true) (hb : (Lit.int .i64 b).wf = true) (hcc : (Lit.int .i64 c).wf = true) (he : (Lit.int .i64 e).wf = true) : (keyOf P kt (.agg #[.int .i64 e, .int .i64 a, .int .i64 b, .int .i64 c])).isSome = true := by
  have hint : ∀ (d : Nat) (n : Int), (Lit.int .i64 n).wf = true → P.keyLits (d + 1) ti [.int .i64 n] = some [.int .i64 n] := by
    intro d n hw
    unfold Program.keyLits
    simp only [hti]
    rw [if_pos ⟨trivial, hw⟩]
  obtain ⟨d, hd⟩ : ∃ d, P.types.size = d + 2 := ⟨P.types.size - 2, by omega⟩
  have hx : P.keyLits (d + 2) kx [.int .i64 a, .int .i64 b, .int .i64 c] = some [.int .i64 a, .int .i64 b, .int .i64 c] := by
    have hm2 : (gs.toList.mapM fun f => P.keyLits (d + 1) f.type ((([.int .i64 a, .int .i64 b, .int .i64 c] : List Value).drop f.offset).take (P.cellsOf f.type))) = some [[.int .i64 a], [.int .i64 b], [.int .i64 c]] := by
      have e : (fun f : Field => P.keyLits (d + 1) f.type ((([.int .i64 a, .int .i64 b, .int .i64 c] : List Value).drop f.offset).take (P.cellsOf f.type))) = (fun p : TypeId × Nat => P.keyLits (d + 1) p.1 ((([.int .i64 a, .int .i64 b, .int .i64 c] : List Value).drop p.2).take (P.cellsOf p.1))) ∘ (fun f : Field => (f.type, f.offset)) := rfl
      rw [e, ← List.mapM_map, hf2]
      simp [hc, hint _ _ ha, hint _ _ hb, hint _ _ hcc]
    rw [show d + 2 = (d + 1) + 1 from rfl]
    unfold Program.keyLits
    simp only [hg]
    rw [if_pos ⟨by rw [h3]; rfl, hm⟩, hm2]
    rfl
  unfold keyOf
  rw [hu]
  simp only
  have hfm : Value.formed P kt (.agg #[.int .i64 e, .int .i64 a, .int .i64 b, .int .i64 c]) = true := by
    unfold Value.formed
    simp [hu, h4]
  rw [hk, hfm]
  have hl : P.keyLits (P.types.size + 1) kt [.int .i64 e, .int .i64 a, .int .i64 b, .int .i64 c] = some [.int .i64 e, .int .i64 a, .int .i64 b, .int .i64 c] := by
    have hm2 : (fs.toList.mapM fun f => P.keyLits (d + 2) f.type ((([.int .i64 e, .int .i64 a, .int .i64 b, .int .i64 c] : List Value).drop f.offset).take (P.cellsOf f.type))) = some [[.int .i64 e], [.int .i64 a, .int .i64 b, .int .i64 c]] := by
      have e : (fun f : Field => P.keyLits (d + 2) f.type ((([.int .i64 e, .int .i64 a, .int .i64 b, .int .i64 c] : List Value).drop f.offset).take (P.cellsOf f.type))) = (fun p : TypeId × Nat => P.keyLits (d + 2) p.1 ((([.int .i64 e, .int .i64 a, .int .i64 b, .int .i64 c] : List Value).drop p.2).take (P.cellsOf p.1))) ∘ (fun f : Field => (f.type, f.offset)) := rfl
      rw [e, ← List.mapM_map, hf]
      simp [hc, h3, hint _ _ he, hx]
    rw [hd]
    unfold Program.keyLits
    simp only [hu]
    rw [if_pos ⟨by rw [h4]; rfl, hn⟩, hm2]
    rfl
  show (Option.map _ (P.keyLits (P.types.size + 1) kt [.int .i64 e, .int .i64 a, .int .i64 b, .int .i64 c])).isSome = true
  rw [hl]
  rfl
def spC (s : Sp) : List Value := .int .i64 (s.1 : Nat) :: itC s.2
def spV (s : Sp) : Value := .agg (spC s).toArray
theorem spC_inj {x y : Sp} (h : spC x = spC y) : x = y := by
  unfold spC at h
  simp only [List.cons.injEq, Value.int.injEq, true_and] at h
  obtain ⟨a, b⟩ := x
  obtain ⟨a', b'⟩ := y
  have := itC_inj h.2
  simp only at this h
  subst this
  have : a = a' := by omega
  rw [this]
def entsN (M : List (Sp × Nat)) : List MapEntry := M.zipIdx.map fun p => ⟨spV p.1.1, .int .i64 (p.1.2 : Nat), p.2⟩
def MN (M : List (Sp × Nat)) : AObj := .map (entsN M) M.length 81
theorem entsN_snoc (M : List (Sp × Nat)) (e : Sp × Nat) : entsN (M ++ [e]) = entsN M ++ [⟨spV e.1, .int .i64 (e.2 : Nat), M.length⟩] := by
  unfold entsN
  rw [List.zipIdx_append, List.map_append]
  simp
theorem veq_sp (x y : Sp) : veq (spV x) (spV y) = decide (x = y) := by
  by_cases h : x = y
  · subst h
    have : veqs (spC x) (spC x) = true := by simp [spC, itC, veqs, veq1]
    simp only [decide_true]
    exact this
  · simp only [h, decide_false]
    cases hv : veq (spV x) (spV y) with
    | false => rfl
    | true =>
      have := veqs_eq (show veqs (spC x) (spC y) = true from hv)
      exact absurd (spC_inj this) h
theorem wide_sp : wideK Try.prog 81 = true := by kernel_rfl
def smS (s : Sp) : Prop := s.1 ≤ 1000000 ∧ smI s.2
noncomputable def fsS : Array Field := match Try.prog.underlying 81 with
  | some (.struct fs) => fs
  | _ => #[]
theorem key_sp {x : Sp} (h : smS x) : (keyOf Try.prog 81 (spV x)).isSome = true :=
  keyOf_13 (fs := fsS) (gs := fsI) (kx := 74) (ti := 3) (by kernel_rfl) (by kernel_rfl) (by kernel_rfl) (by kernel_rfl) (by kernel_rfl) (Nat.le_of_ble_eq_true (by kernel_rfl)) (by kernel_rfl) (by kernel_rfl) (by kernel_rfl) (by kernel_rfl) (by kernel_rfl) (by kernel_rfl) (wf_nat h.2.1) (wf_nat h.2.2.1) (wf_nat h.2.2.2) (wf_nat h.1)
theorem und_mapN : Try.prog.underlying 78 = some (.map 81 3) := by kernel_rfl
theorem zero_int : ((Try.prog.info? 3).bind (·.zero)) = some (.int .i64 (Int.ofNat 0)) := by kernel_rfl
theorem find_sp {x : Sp} (hs : smS x) (M : List (Sp × Nat)) : afind Try.prog 81 (spV x) (entsN M) = some ((entsN M).findIdx? fun e => veq e.key (spV x)) := by
  unfold afind
  rw [if_pos ⟨wide_sp, rfl, key_sp hs⟩]
def entsF (M : List (Sp × Nat)) (k : Nat) : List MapEntry := (M.zipIdx k).map fun p => ⟨spV p.1.1, .int .i64 (p.1.2 : Nat), p.2⟩
theorem find_gets (x : Sp) : ∀ (M : List (Sp × Nat)) (k : Nat), ((entsF M k).findIdx? fun e => veq e.key (spV x)) = (M.findIdx? fun e => decide (e.1 = x)) := by
  intro M
  induction M with
  | nil => intro k; rfl
  | cons e M ih =>
    intro k
    unfold entsF
    rw [List.zipIdx_cons, List.map_cons, List.findIdx?_cons, List.findIdx?_cons, veq_sp]
    show _ = _
    rw [show List.map (fun p => (⟨spV p.1.1, .int .i64 (p.1.2 : Nat), p.2⟩ : MapEntry)) (M.zipIdx (k + 1)) = entsF M (k + 1) from rfl, ih]
theorem get_none {x : Sp} : ∀ {M : List (Sp × Nat)}, (M.findIdx? fun e => decide (e.1 = x)) = none → getM M x = none ∧ ∀ n, setM M x n = M ++ [(x, n)] := by
  intro M
  induction M with
  | nil => intro _; exact ⟨rfl, fun n => rfl⟩
  | cons e M ih =>
    intro h
    rw [List.findIdx?_cons] at h
    by_cases he : e.1 = x
    · simp [he] at h
    · simp only [he, decide_false, Bool.false_eq_true, if_false, Option.map_eq_none_iff] at h
      obtain ⟨h1, h2⟩ := ih h
      simp only [getM, if_neg he, setM]
      exact ⟨h1, fun n => by rw [h2]; rfl⟩
theorem get_some {x : Sp} : ∀ {M : List (Sp × Nat)} {i : Nat}, (M.findIdx? fun e => decide (e.1 = x)) = some i → ∃ m, M[i]? = some (x, m) ∧ getM M x = some m ∧ ∀ n, setM M x n = M.set i (x, n) := by
  intro M
  induction M with
  | nil => intro i h; cases h
  | cons e M ih =>
    intro i h
    rw [List.findIdx?_cons] at h
    by_cases he : e.1 = x
    · simp [he] at h
      subst h
      subst he
      exact ⟨e.2, rfl, by simp [getM], fun n => by simp [setM]⟩
    · simp only [he, decide_false, Bool.false_eq_true, if_false, Option.map_eq_some_iff] at h
      obtain ⟨j, hj, rfl⟩ := h
      obtain ⟨m, h1, h2, h3⟩ := ih hj
      refine ⟨m, by simpa using h1, ?_, fun n => ?_⟩
      · simp only [getM, if_neg he]; exact h2
      · simp only [setM, if_neg he, h3]; rfl
theorem entsN_set {M : List (Sp × Nat)} {i : Nat} {x : Sp} {m n : Nat} (h : M[i]? = some (x, m)) : (entsN M).modify i (fun e => { e with val := .int .i64 (n : Nat) }) = entsN (M.set i (x, n)) := by
  apply List.ext_getElem?
  intro j
  unfold entsN
  rw [List.getElem?_modify, List.getElem?_map, List.getElem?_map, List.getElem?_zipIdx, List.getElem?_zipIdx, List.getElem?_set]
  by_cases hij : i = j
  · subst hij
    obtain ⟨hi, he⟩ := List.getElem?_eq_some_iff.1 h
    simp [hi, he]
  · simp [hij]
theorem look_sp {H : Heap} {m : Nat} {M : List (Sp × Nat)} (h : H m = MN M) {x : Sp} (hs : smS x) : alookup Try.prog 78 H (.map (some m)) (spV x) true = some { v := .tuple #[.int .i64 ((getM M x).getD 0 : Nat), .bool (getM M x).isSome], rd := [m] } := by
  unfold MN at h
  unfold alookup
  rw [und_mapN]
  simp only [h, if_pos, find_sp hs]
  have hf := find_gets x M 0
  rw [show entsF M 0 = entsN M from rfl] at hf
  rw [hf]
  cases hx : M.findIdx? fun e => decide (e.1 = x) with
  | none =>
    obtain ⟨h1, _⟩ := get_none hx
    simp only [zero_int, h1]
    rfl
  | some i =>
    obtain ⟨m, h1, h2, _⟩ := get_some hx
    have h3 : (entsN M)[i]? = some ⟨spV x, .int .i64 (m : Nat), i⟩ := by
      unfold entsN
      rw [List.getElem?_map, List.getElem?_zipIdx, h1]
      simp
    simp only [h3, h2]
    rfl
theorem set_sp {H : Heap} {m : Nat} {M : List (Sp × Nat)} (h : H m = MN M) {x : Sp} (hs : smS x) (n : Nat) : amapset Try.prog 78 H (.map (some m)) (spV x) (.int .i64 (n : Nat)) = some { v := undef, wr := some (m, MN (setM M x n)) } := by
  unfold MN at h
  unfold amapset
  rw [und_mapN]
  simp only [h, if_pos, find_sp hs]
  have hf := find_gets x M 0
  rw [show entsF M 0 = entsN M from rfl] at hf
  rw [hf]
  cases hx : M.findIdx? fun e => decide (e.1 = x) with
  | none =>
    obtain ⟨_, h2⟩ := get_none hx
    simp only [h2]
    unfold MN
    rw [entsN_snoc, List.length_append]
    rfl
  | some i =>
    obtain ⟨k, h1, _, h3⟩ := get_some hx
    simp only [h3, entsN_set h1]
    unfold MN
    rw [List.length_set]
theorem make_sp (n : Nat) : amake Try.prog n 78 = some { v := .map (some n), news := [MN []] } := by
  unfold amake
  rw [und_mapN]
  rfl
end Go.Proofs.Ytpdlmpbhohinpaa
