/- A part of a proof. Its conditions: none. -/
import Derived.Test.YtemkglelfeidhaaAmJFoTwo
set_option linter.all false
namespace Go.Proofs.Ytemkglelfeidhaa
open Go.AM Go.AM.Fo Go.RowKit
set_option maxRecDepth 100000
def stC (q : Nd × Int) : List Value := [.int .i64 q.1.1, .int .i64 (q.1.2.1 : Nat), .int .i64 (q.1.2.2 : Nat), .int .i64 q.2]
def stV (q : Nd × Int) : Value := .agg (stC q).toArray
theorem st_3 (q : Nd × Int) : (stC q)[3]? = some (.int .i64 q.2) := rfl
theorem st_from (q : Nd × Int) : ((stC q).drop 0).take 3 = ndC q.1 := rfl
theorem st_from2 (q : Nd × Int) : (stC q).take 3 = ndC q.1 := rfl
theorem st_all (q : Nd × Int) : ((stC q).drop 0).take 4 = stC q := rfl
theorem st_all2 (q : Nd × Int) : (stC q).take 4 = stC q := rfl
theorem st_len (q : Nd × Int) : (stC q).length = 4 := rfl
theorem st_one (q : Nd × Int) : (stC q).all one = true := rfl
theorem st_cells (q : Nd × Int) : vcells (.agg (stC q).toArray) = stC q := rfl
theorem und_ms : Try.prog.underlying 75 = some (.map 67 74) := by kernel_rfl
structure MC (H : Heap) (mc : Nat) (todo : List Nd) (par : Nd → Nd × Int) : Prop where
  m : H mc = .map (vE ndV (fun x => stV (par x)) todo 0) todo.length 67
  sm : ∀ x, x ∈ todo → smN x
theorem MC.mono {n n' : Nat} {H H' : Heap} {mc : Nat} {todo : List Nd} {par : Nd → Nd × Int} (h : MC H mc todo par) (hw : WF n H) (hk : Kp n H n' H') : MC H' mc todo par :=
  ⟨by rw [hk.keep _ (live_lt hw (by rw [h.m]; intro e; cases e))]; exact h.m, h.sm⟩
theorem MC.look {H : Heap} {mc : Nat} {todo : List Nd} {par : Nd → Nd × Int} (h : MC H mc todo par) {x : Nd} (hm : x ∈ todo) (b : Bool) : alookup Try.prog 75 H (.map (some mc)) (ndV x) b = some { v := if b then .tuple #[stV (par x), .bool true] else stV (par x), rd := [mc] } :=
  gkN.vyes (h.sm x hm) h.sm hm und_ms h.m b
section
variable {fo m n0 N0 : Nat} {pt pv pr pw : Option Addr} {g : Gram} {w : List Int} {ks : List Nd} {rd : Nd → Nat} {H0 : Heap}
theorem load_nd {H : Heap} {x : Nat} {cs : List Value} {ty : TypeId} {own : Bool} (h : H x = .cells cs ty own) (hl : cs.length = 3) : (aload Try.prog 67 H (.pointer (some ⟨x, 0, none⟩))) = some { v := .agg cs.toArray, rd := [x] } := by
  have h1 : aggT Try.prog 67 = some true := by kernel_rfl
  have h2 : Try.prog.cellsOf 67 = 3 := by kernel_rfl
  unfold aload
  simp only [h, h1, h2]
  rw [if_pos (by omega), List.drop_zero, List.take_of_length_le (by omega)]
theorem res_nd {f : Fr} {n : Nat} {H : Heap} {x : Nat} {cs : List Value} {ty : TypeId} {own : Bool} (hf : f 2 = .pointer (some ⟨x, 0, none⟩)) (h : H x = .cells cs ty own) (hl : cs.length = 3) : aresultsL Try.prog ⟨f, n, H⟩ Try.f35.results.toList = some [.agg cs.toArray] := by
  have e : Try.f35.results.toList = [.cell 2 67] := rfl
  rw [e]
  unfold aresultsL aresult
  simp only [hf, load_nd h hl]
  rfl
set_option maxHeartbeats 4000000 in
theorem root_gives (hw : WF n0 H0) (hf : FO H0 fo m pt pv pr pw g w) : Gives Try.prog 35 [.pointer (some ⟨fo, 0, none⟩)] n0 H0 fun v n' H' => v = ndV (root w) := by
  refine Gives.of orders ok35 (Nat.le_of_ble_eq_true rfl) ?_
  have hfo := hf.f
  have hfn := live_m hw (z := fo) (by rw [hfo]; intro e; cases e)
  have q1 : ∀ ob, hset H0 n0 ob fo = H0 fo := fun ob => hset_ne _ _ _ (by omega)
  repeat (first | refine qqn rfl ?_ | ((first | (refine WK.rgn ?_ ?_; kernel_rfl) | refine AtCall.now ?_); simp (config := {maxSteps:=999999}) only [SS, qg0, qgl, qgs, qgf, qga, forall_const, Go.AM.splice, one, tlen2, tlen3, tbuild, afill, Int.reduceEq, Int.reduceNeg, Nat.reduceGT, Nat.reduceLT, Nat.reduceLeDiff, Nat.reduceEqDiff, ↓reduceIte, reduceCtorEq, Int.reduceToNat, Int.reduceLE, Int.reduceLT, Nat.reduceAdd, Nat.reduceMul, q1, hfo, fo_3, aop_nc, tnc, hset_at, ff_35]) | refine qqj rfl ?_ | refine qqk rfl ?_)
  refine WK.retNil ⟨Or.inr rfl, _, res_nd (x := n0) ?_ (hset_at _ _ _) rfl, fun z hz => ?_, ?_⟩
  · simp only [packed, fset_apply, Nat.reduceEqDiff, ↓reduceIte, List.getD_cons_zero, List.getD_cons_succ, ff_35]
  · exact hset_ne _ _ _ (by omega)
  · rfl
set_option maxHeartbeats 4000000 in
theorem one_gives {n : Nat} {H : Heap} (hw0 : WF n0 H0) (md : Made H0 N0 fo m pt pv pr pw g w ks rd) (hwl : w.length ≤ 10) (sg : Sgm g) (hk : Kp n0 H0 n H) :
    Gives Try.prog 15 [.pointer (some ⟨fo, 0, none⟩)] n H fun v n' H' => (rd (root w) = 0 ∧ v = .tuple #[.slice none 0 0, .bool false]) ∨ (rd (root w) ≠ 0 ∧ ∃ u, v = .tuple #[u, .bool true] ∧ FI H' n u (pl g w rd (root w))) := by
  refine Gives.of orders ok15 (Nat.le_of_ble_eq_true rfl) ?_
  have hw := hk.wf hw0
  have mdn := md.mono hw0 hk
  have hfo := mdn.f.f
  have hsx : smN (root w) := by unfold smN root; simp only; omega
  have hroot := root_gives hw mdn.f
  repeat (first | refine qqn rfl ?_ | ((first | (refine WK.rgn ?_ ?_; kernel_rfl) | refine AtCall.now ?_); simp (config := {maxSteps:=999999}) only [SS, qx28, forall_const, Int.reduceEq, Int.reduceNeg, Nat.reduceGT, Nat.reduceLT, Nat.reduceLeDiff, Nat.reduceEqDiff, ↓reduceIte, reduceCtorEq, Int.reduceToNat, Int.reduceLE, Int.reduceLT, Nat.reduceAdd, Nat.reduceMul, hfo, fo_4, aop_nc, tnc, aop_look, ff_15]) | refine qqj rfl ?_ | refine qqk rfl ?_)
  refine AtCall.by hroot ?_
  rintro v n1 H1 k1 rfl
  have hw1 := k1.wf hw
  have md1 := mdn.mono hw k1
  have hlk := md1.mr.look hsx
  by_cases h0 : rd (root w) = 0
  · have h0' : (((rd (root w) : Nat) : Int) = 0) = True := by simp only [eq_iff_iff, iff_true]; omega
    simp (config := {maxSteps:=999999}) only [SS, qx28, forall_const, Int.reduceEq, Int.reduceNeg, Nat.reduceGT, Nat.reduceLT, Nat.reduceLeDiff, Nat.reduceEqDiff, ↓reduceIte, reduceCtorEq, Int.reduceToNat, Int.reduceLE, Int.reduceLT, Nat.reduceAdd, Nat.reduceMul, hlk, h0', aop_look, ff_15]
    repeat (first | refine qqn rfl ?_ | ((first | (refine WK.rgn ?_ ?_; kernel_rfl) | refine AtCall.now ?_); simp (config := {maxSteps:=999999}) only [SS, qx28, forall_const, Int.reduceEq, Int.reduceNeg, Nat.reduceGT, Nat.reduceLT, Nat.reduceLeDiff, Nat.reduceEqDiff, ↓reduceIte, reduceCtorEq, Int.reduceToNat, Int.reduceLE, Int.reduceLT, Nat.reduceAdd, Nat.reduceMul, ff_15]) | refine qqj rfl ?_ | refine qqk rfl ?_)
    (first | refine WK.retNil ⟨Or.inr rfl, _, rfl, ?_, ?_⟩ | refine WK.skipNil ⟨Or.inl rfl, _, rfl, ?_, ?_⟩)
    · exact k1.keep
    · simp only [packed, fset_apply, Nat.reduceEqDiff, ↓reduceIte, List.getD_cons_zero, List.getD_cons_succ, ff_15]
      exact .inl ⟨h0, trivial⟩
  · have h0' : (((rd (root w) : Nat) : Int) = 0) = False := by simp only [eq_iff_iff, iff_false]; omega
    simp (config := {maxSteps:=999999}) only [SS, qx28, forall_const, Int.reduceEq, Int.reduceNeg, Nat.reduceGT, Nat.reduceLT, Nat.reduceLeDiff, Nat.reduceEqDiff, ↓reduceIte, reduceCtorEq, Int.reduceToNat, Int.reduceLE, Int.reduceLT, Nat.reduceAdd, Nat.reduceMul, hlk, h0', aop_look, ff_15]
    repeat (first | refine qqn rfl ?_ | ((first | (refine WK.rgn ?_ ?_; kernel_rfl) | refine AtCall.now ?_); simp (config := {maxSteps:=999999}) only [SS, qx28, forall_const, Int.reduceEq, Int.reduceNeg, Nat.reduceGT, Nat.reduceLT, Nat.reduceLeDiff, Nat.reduceEqDiff, ↓reduceIte, reduceCtorEq, Int.reduceToNat, Int.reduceLE, Int.reduceLT, Nat.reduceAdd, Nat.reduceMul, ff_15]) | refine qqj rfl ?_ | refine qqk rfl ?_)
    refine AtCall.by (root_gives hw1 md1.f) ?_
    rintro v n2 H2 k2 rfl
    simp (config := {maxSteps:=999999}) only [SS, qx28, forall_const, Int.reduceEq, Int.reduceNeg, Nat.reduceGT, Nat.reduceLT, Nat.reduceLeDiff, Nat.reduceEqDiff, ↓reduceIte, reduceCtorEq, Int.reduceToNat, Int.reduceLE, Int.reduceLT, Nat.reduceAdd, Nat.reduceMul, aop_look, ff_15]
    refine AtCall.by (plain_gives hw0 md hwl sg _ (root w) (Nat.le_refl _) h0 n2 H2 (hk.trans (k1.trans k2))) ?_
    rintro u n3 H3 k3 hu
    have hl2 := k2.le
    have hl1 := k1.le
    simp (config := {maxSteps:=999999}) only [SS, qx28, forall_const, Int.reduceEq, Int.reduceNeg, Nat.reduceGT, Nat.reduceLT, Nat.reduceLeDiff, Nat.reduceEqDiff, ↓reduceIte, reduceCtorEq, Int.reduceToNat, Int.reduceLE, Int.reduceLT, Nat.reduceAdd, Nat.reduceMul, aop_look, ff_15]
    repeat (first | refine qqn rfl ?_ | ((first | (refine WK.rgn ?_ ?_; kernel_rfl) | refine AtCall.now ?_); simp (config := {maxSteps:=999999}) only [SS, qx28, forall_const, Int.reduceEq, Int.reduceNeg, Nat.reduceGT, Nat.reduceLT, Nat.reduceLeDiff, Nat.reduceEqDiff, ↓reduceIte, reduceCtorEq, Int.reduceToNat, Int.reduceLE, Int.reduceLT, Nat.reduceAdd, Nat.reduceMul, ff_15]) | refine qqj rfl ?_ | refine qqk rfl ?_)
    (first | refine WK.retNil ⟨Or.inr rfl, _, rfl, ?_, ?_⟩ | refine WK.skipNil ⟨Or.inl rfl, _, rfl, ?_, ?_⟩)
    · intro z hz
      exact (k3.keep z (by omega)).trans ((k2.keep z (by omega)).trans (k1.keep z hz))
    · simp only [packed, fset_apply, Nat.reduceEqDiff, ↓reduceIte, List.getD_cons_zero, List.getD_cons_succ, ff_15]
      exact .inr ⟨h0, u, rfl, hu.weak (by omega)⟩
theorem kid_nd {ah : Nat} {ss : List Int} {a b : Nat} {cs : List Nat} (h : Seg w rd ah ss a cs b) {i : Nat} {z : Nd} (hz : (kidsL ss a cs)[i]? = some z) (h0 : 0 ≤ z.1) : rd z ≠ 0 := by
  obtain ⟨_, _, _, q⟩ := Seg.kid h i z hz
  rcases q with ⟨_, _, q1, _⟩ | ⟨q, _⟩
  · omega
  · omega
theorem WL.one {H : Heap} {N : Nat} {v : Value} {y : Fo.Way} (h : WL H N v [y]) : ∃ (z : Nat) (p : Option Addr), v = .slice (some ⟨z, 0, none⟩) 1 1 ∧ N ≤ z ∧ H z = .cells (wyC p y) 82 true ∧ RS (fun c : Nat => Value.int .i64 (c : Int)) H p y.2 := by
  rcases h with ⟨h, _⟩ | ⟨z, qs, h1, _, h3, h4, h5, h6⟩
  · cases h
  · cases qs with
    | nil => cases h1
    | cons q qs =>
      cases qs with
      | nil =>
        have e : q.2 = y := by simpa using h1
        refine ⟨z, q.1, h3, h4, ?_, ?_⟩
        · rw [h5, ← e]; simp
        · rw [← e]; exact h6 q (by simp)
      | cons q2 qs => simp at h1
theorem by_gives2 {n : Nat} {H : Heap} (hw0 : WF n0 H0) (md : Made H0 N0 fo m pt pv pr pw g w ks rd) (hwl : w.length ≤ 10) (sg : Sgm g) (hk : Kp n0 H0 n H) {x : Nd} {y : Fo.Way} {p : Option Addr} {ah : Nat} (hy : y ∈ waysL g w rd ah x)
    (hp : RS (fun c : Nat => Value.int .i64 (c : Int)) H p y.2) {wh : Int} {ov : Value} {own : List Int} (hwh : wh < 0 ∨ FI H 0 ov own) (hlen : (byL g w rd x y wh own).length ≤ bigN) :
    Gives Try.prog 43 [.pointer (some ⟨fo, 0, none⟩), ndV x, .agg (wyC p y).toArray, .int .i64 wh, ov] n H fun v n' H' => FI H' n v (byL g w rd x y wh own) := by
  have hm := mem_ways.1 hy
  exact by_gives (hk.wf hw0) (md.f.mono hw0 hk) sg hm.1 (Seg.len hm.2.2) hp hwh (fun i z hz hi h0 n' H' k' => plain_gives hw0 md hwl sg _ z (Nat.le_refl _) (kid_nd hm.2.2 hz h0) n' H' (hk.trans k')) hlen
set_option maxHeartbeats 16000000 in
theorem up_gives {n : Nat} {H : Heap} (hw0 : WF n0 H0) (md : Made H0 N0 fo m pt pv pr pw g w ks rd) (hwl : w.length ≤ 10) (sg : Sgm g) (hk : Kp n0 H0 n H) {mc : Nat} {todo : List Nd} {par : Nd → Nd × Int} (c : Cm g w rd todo par) (hmc : MC H mc todo par) (ht : todo.length ≤ 968)
    {j : Nat} {x : Nd} (hx : todo[j]? = some x) {ov : Value} {own : List Int} (ho : FI H 0 ov own) (hown : own.length + vC * j ≤ 16 * vM * (x.2.2 - x.2.1) + vC * 969) :
    Gives Try.prog 42 [.pointer (some ⟨fo, 0, none⟩), .map (some mc), ndV x, ov] n H fun v n' H' => ∃ out, Up g w rd par x own out ∧ FI H' 0 v out := by
  refine Gives.of orders ok42 (Nat.le_of_ble_eq_true rfl) ?_
  have hw := hk.wf hw0
  have mdn := md.mono hw0 hk
  have hmn := live_m hw (z := mc) (by rw [hmc.m]; intro e; cases e)
  have k2 := Kp.new n H (.cells (ndC x) 67 true)
  have b1 := hset_at H n (.cells (ndC x) 67 true)
  repeat (first | refine qqn rfl ?_)
  (refine WK.rgn ?_ ?_; kernel_rfl; simp (config := {maxSteps:=999999}) only [SS, qx20, forall_const, Int.reduceEq, Int.reduceNeg, Nat.reduceGT, Nat.reduceLT, Nat.reduceLeDiff, Nat.reduceEqDiff, ↓reduceIte, reduceCtorEq, Int.reduceToNat, Int.reduceLE, Int.reduceLT, Nat.reduceAdd, Nat.reduceMul, abox, ndC_cells, ndC_one, ndV, ff_42])
  generalize hset H n (.cells (ndC x) 67 true) = H2 at *
  have hw2 := k2.wf hw
  have hlk := (hmc.mono hw k2).look (List.mem_of_getElem? hx) false
  have e6 : ndV x = .agg (ndC x).toArray := rfl
  rw [e6] at hlk
  simp only [stV, if_false, Bool.false_eq_true] at hlk
  have sp4 : ∀ q, AM.splice [Value.int IntKind.i64 (Int.ofNat 0), Value.int IntKind.i64 (Int.ofNat 0), Value.int IntKind.i64 (Int.ofNat 0), Value.int IntKind.i64 (Int.ofNat 0)] 0 (stC q) = stC q := fun q => rfl
  have sp4' : ∀ q q', AM.splice (stC q) 0 (stC q') = stC q' := fun q q' => rfl
  have sp3' : ∀ q q', AM.splice (ndC q) 0 (ndC q') = ndC q' := fun q q' => rfl
  repeat (first | refine qqn rfl ?_ | ((first | (refine WK.rgn ?_ ?_; kernel_rfl) | refine AtCall.now ?_); simp (config := {maxSteps:=999999}) only [SS, qx20, forall_const, Int.reduceEq, Int.reduceNeg, Nat.reduceGT, Nat.reduceLT, Nat.reduceLeDiff, Nat.reduceEqDiff, ↓reduceIte, reduceCtorEq, Int.reduceToNat, Int.reduceLE, Int.reduceLT, Nat.reduceAdd, Nat.reduceMul, b1, ndC_all, ndC_len, aop_look, hlk, st_cells, st_one, st_len, hset_at, st_all, st_all2, sp4, ff_42]) | refine qqj rfl ?_ | refine qqk rfl ?_)
  have k3 := k2.trans (Kp.new (n + 1) H2 (.cells (stC (par x)) 74 true))
  have b13 := ((Kp.new (n + 1) H2 (.cells (stC (par x)) 74 true)).keep n (by omega)).trans b1
  have bs3 := hset_at H2 (n + 1) (.cells (stC (par x)) 74 true)
  generalize hset H2 (n + 1) (.cells (stC (par x)) 74 true) = H3 at *
  refine WK.loop (fun kk s => ∃ (j' bs : Nat) (x' : Nd) (own' : List Int), todo[j']? = some x' ∧ Kp n H s.n s.H ∧ s.H n = .cells (ndC x') 67 true ∧ n < bs ∧ bs < s.n ∧ s.H bs = .cells (stC (par x')) 74 true ∧ FI s.H 0 (s.f 3) own' ∧ own'.length + vC * j' ≤ 16 * vM * (x'.2.2 - x'.2.1) + vC * 969 ∧ (∀ out, Up g w rd par x' own' out → Up g w rd par x own out) ∧
    s.f 0 = .pointer (some ⟨fo, 0, none⟩) ∧ s.f 1 = .map (some mc) ∧ s.f 6 = .pointer (some ⟨n, 0, none⟩) ∧ s.f 9 = .pointer (some ⟨bs, 0, none⟩) ∧ kk = j') j ?_ ?_
  · exact ⟨j, n + 1, x, own, hx, k3, b13, by omega, by show n + 1 < n + 1 + 1; omega, bs3, ho.mono hw k3, hown, fun _ h => h, rfl, rfl, rfl, rfl, rfl⟩
  clear hx ho hown b1 b13 bs3 k2 k3 hlk hw2
  rintro kk ⟨f, n4, H4⟩ ⟨j', bs, x', own', hx, k4, b1, hbs1, hbs2, b2, ho, hown, hup, f0, f1, f6, f9, rfl⟩ ih
  simp only at k4 b1 hbs2 b2 ho f0 f1 f6 f9 ih
  have hw4 := k4.wf hw
  have hle4 := k4.le
  rcases c.one hx with ⟨rfl, rfl, h1⟩ | ⟨_, h1, i, y, k, hij, hxi, hk2, hwy, hkz, hz0⟩
  · have h1' : ((0 : Int) ≤ (par (root w)).2) = False := by simp only [eq_iff_iff, iff_false]; omega
    repeat (first | refine qqn rfl ?_ | ((first | (refine WK.rgn ?_ ?_; kernel_rfl) | refine AtCall.now ?_); simp (config := {maxSteps:=999999}) only [SS, qx20, forall_const, Int.reduceEq, Int.reduceNeg, Nat.reduceGT, Nat.reduceLT, Nat.reduceLeDiff, Nat.reduceEqDiff, ↓reduceIte, reduceCtorEq, Int.reduceToNat, Int.reduceLE, Int.reduceLT, Nat.reduceAdd, Nat.reduceMul, f9, b2, st_3, h1', ff_42]) | refine qqj rfl ?_ | refine qqk rfl ?_)
    (first | refine WK.retNil ⟨Or.inr rfl, _, rfl, ?_, ?_⟩ | refine WK.skipNil ⟨Or.inl rfl, _, rfl, ?_, ?_⟩)
    · exact k4.keep
    · simp only [packed, fset_apply, Nat.reduceEqDiff, ↓reduceIte, List.getD_cons_zero, List.getD_cons_succ, ff_42]
      exact ⟨own', hup _ (.stop h1), ho⟩
  have h1' : ((0 : Int) ≤ (par x').2) = True := by simp only [eq_iff_iff, iff_true]; omega
  obtain ⟨x1, hx1⟩ : ∃ x1, (par x').1 = x1 := ⟨_, rfl⟩
  rw [hx1] at hxi hwy hkz
  obtain ⟨hrd, h8⟩ := c.ok x1 (List.mem_of_getElem? hxi)
  obtain ⟨v1, v2, v3⟩ := md.ok.val x1 hrd
  have hym : y ∈ waysL g w rd 0 x1 := by rw [hwy]; simp
  have hbl := md.ok.by_len2 sg.ing (sg.sml hwl) hym hkz own'
  have hil := (List.getElem?_eq_some_iff.1 hxi).1
  have hbig : (byL g w rd x1 y (par x').2 own').length + vC * i ≤ 16 * vM * (x1.2.2 - x1.2.1) + vC * 969 := by
    rw [hk2]
    have : vC * i + vC ≤ vC * kk := by rw [← Nat.mul_succ]; exact Nat.mul_le_mul (Nat.le_refl _) hij
    omega
  have hbb : (byL g w rd x1 y (par x').2 own').length ≤ bigN := by
    unfold vM vC at hbig
    unfold bigN
    omega
  have k5 := k4.set (x := n) (.cells (ndC x1) 67 true) (Nat.le_refl _) (by omega)
  have b15 := hset_at H4 n (.cells (ndC x1) 67 true)
  have b25 := (hset_ne H4 n (.cells (ndC x1) 67 true) (x := bs) (by omega)).trans b2
  have ho5 : FI (hset H4 n (.cells (ndC x1) 67 true)) 0 (f 3) own' := by
    obtain ⟨z, e1, e2, e3⟩ := ho
    exact ⟨z, e1, e2, (hset_ne _ _ _ (by intro e; subst e; rw [b1] at e3; injection e3 with _ q _; exact nd_ne_int q)).trans e3⟩
  have hn4 : n < n4 := by omega
  repeat (first | refine qqn rfl ?_)
  (refine WK.rgn ?_ ?_; kernel_rfl; simp (config := {maxSteps:=999999}) only [SS, qx20, forall_const, Int.reduceEq, Int.reduceNeg, Nat.reduceGT, Nat.reduceLT, Nat.reduceLeDiff, Nat.reduceEqDiff, ↓reduceIte, reduceCtorEq, Int.reduceToNat, Int.reduceLE, Int.reduceLT, Nat.reduceAdd, Nat.reduceMul, f9, b2, st_3, h1', ff_42])
  repeat (first | refine qqn rfl ?_)
  first | refine qqj rfl ?_ | refine qqk rfl ?_
  repeat (first | refine qqn rfl ?_)
  (refine WK.rgn ?_ ?_; kernel_rfl; simp (config := {maxSteps:=999999}) only [SS, qx20, forall_const, Int.reduceEq, Int.reduceNeg, Nat.reduceGT, Nat.reduceLT, Nat.reduceLeDiff, Nat.reduceEqDiff, ↓reduceIte, reduceCtorEq, Int.reduceToNat, Int.reduceLE, Int.reduceLT, Nat.reduceAdd, Nat.reduceMul, f6, f9, b1, b2, st_3, h1', st_from, st_from2, st_len, hx1, ndC_cells, ndC_one, ndC_len, sp3', ff_42])
  generalize hset H4 n (.cells (ndC x1) 67 true) = H5 at *
  have hw5 := k5.wf hw
  have md5 := mdn.mono hw k5
  have hf1 := first_gives (x := x1) hw5 md5.f md5.mr hwl sg v2 v3
  rw [hwy] at hf1
  repeat (first | refine qqn rfl ?_ | ((first | (refine WK.rgn ?_ ?_; kernel_rfl) | refine AtCall.now ?_); simp (config := {maxSteps:=999999}) only [SS, qx20, forall_const, Int.reduceEq, Int.reduceNeg, Nat.reduceGT, Nat.reduceLT, Nat.reduceLeDiff, Nat.reduceEqDiff, ↓reduceIte, reduceCtorEq, Int.reduceToNat, Int.reduceLE, Int.reduceLT, Nat.reduceAdd, Nat.reduceMul, f0, f6, b15, ndC_all, ndC_len, ff_42]) | refine qqj rfl ?_ | refine qqk rfl ?_)
  refine AtCall.by hf1 ?_
  rintro v n6 H6 k6 hwl6
  obtain ⟨zw, p, rfl, hzw0, hzw, hp⟩ := hwl6.one
  have hw6 := k6.wf hw5
  have b26 := (k6.keep bs hbs2).trans b25
  have h01 : ((0 : Int) < ((1 : Nat) : Int)) = True := by simp
  simp (config := {maxSteps:=999999}) only [SS, qx20, forall_const, Int.reduceEq, Int.reduceNeg, Nat.reduceGT, Nat.reduceLT, Nat.reduceLeDiff, Nat.reduceEqDiff, ↓reduceIte, reduceCtorEq, Int.reduceToNat, Int.reduceLE, Int.reduceLT, Nat.reduceAdd, Nat.reduceMul, hzw, wy_all, wy_len, f9, b26, st_3, h01, ff_42]
  refine AtCall.by (by_gives2 (x := x1) hw0 md hwl sg (hk.trans (k5.trans k6)) hym hp (.inr (ho5.mono hw5 k6)) hbb) ?_
  rintro v n7 H7 k7 ho7
  have hw7 := k7.wf hw6
  have hle6 := k6.le
  have hle7 := k7.le
  have b27 := (k7.keep bs (by omega)).trans b26
  have b17 := ((k6.trans k7).keep n hn4).trans b15
  have k47 := k5.trans (k6.trans k7)
  have kA := Kp.new n7 H7 (.cells (stC (par x')) 74 true)
  have hlk := (hmc.mono hw (k47.trans kA)).look (List.mem_of_getElem? hxi) false
  have e6 : ndV x1 = .agg (ndC x1).toArray := rfl
  rw [e6] at hlk
  simp only [stV, if_false, Bool.false_eq_true] at hlk
  have hbA := hset_at H7 n7 (.cells (stC (par x')) 74 true)
  simp (config := {maxSteps:=999999}) only [SS, qx20, forall_const, Int.reduceEq, Int.reduceNeg, Nat.reduceGT, Nat.reduceLT, Nat.reduceLeDiff, Nat.reduceEqDiff, ↓reduceIte, reduceCtorEq, Int.reduceToNat, Int.reduceLE, Int.reduceLT, Nat.reduceAdd, Nat.reduceMul, aop_look, ff_42]
  repeat (first | refine qqn rfl ?_)
  (refine WK.rgn ?_ ?_; kernel_rfl; simp (config := {maxSteps:=999999}) only [SS, qx20, forall_const, Int.reduceEq, Int.reduceNeg, Nat.reduceGT, Nat.reduceLT, Nat.reduceLeDiff, Nat.reduceEqDiff, ↓reduceIte, reduceCtorEq, Int.reduceToNat, Int.reduceLE, Int.reduceLT, Nat.reduceAdd, Nat.reduceMul, f9, b27, st_all, st_all2, st_len, ff_42])
  repeat (first | refine qqn rfl ?_)
  (refine WK.rgn ?_ ?_; kernel_rfl; simp (config := {maxSteps:=999999}) only [SS, qx20, forall_const, Int.reduceEq, Int.reduceNeg, Nat.reduceGT, Nat.reduceLT, Nat.reduceLeDiff, Nat.reduceEqDiff, ↓reduceIte, reduceCtorEq, Int.reduceToNat, Int.reduceLE, Int.reduceLT, Nat.reduceAdd, Nat.reduceMul, f9, st_cells, st_one, st_len, hset_at, sp4, ff_42])
  repeat (first | refine qqn rfl ?_)
  have b1A := (kA.keep n (by omega)).trans b17
  generalize hset H7 n7 (.cells (stC (par x')) 74 true) = H8 at *
  have kB := (k47.trans kA).set (x := n7) (.cells (stC (par x1)) 74 true) (by omega) (by omega)
  (refine WK.rgn ?_ ?_; kernel_rfl; simp (config := {maxSteps:=999999}) only [SS, qx20, forall_const, Int.reduceEq, Int.reduceNeg, Nat.reduceGT, Nat.reduceLT, Nat.reduceLeDiff, Nat.reduceEqDiff, ↓reduceIte, reduceCtorEq, Int.reduceToNat, Int.reduceLE, Int.reduceLT, Nat.reduceAdd, Nat.reduceMul, f1, f6, b1A, hbA, ndC_all, ndC_len, aop_look, hlk, st_cells, st_one, st_len, sp4', ff_42])
  repeat (first | refine qqn rfl ?_)
  refine ih i hij _ ?_
  refine ⟨i, n7, x1, _, hxi, kB, (hset_ne _ _ _ (by omega)).trans b1A, by omega, by show n7 < n7 + 1; omega, hset_at _ _ _, ?_, hbig, fun out ho' => hup _ (.step h1 (by rw [hx1]; exact hwy) (by rw [hx1]; exact ho')), f0, f1, f6, rfl, rfl⟩
  obtain ⟨z, e1, e2, e3⟩ := ho7
  have hz7 := live_m hw7 (z := z) (by rw [e3]; intro e; cases e)
  refine ⟨z, ?_, Nat.zero_le _, (hset_ne _ _ _ (by omega)).trans ((kA.keep z hz7).trans e3)⟩
  simp only [packed, fset_apply, Nat.reduceEqDiff, ↓reduceIte, List.getD_cons_zero, List.getD_cons_succ, ff_42]
  exact e1
end
end Go.Proofs.Ytemkglelfeidhaa
