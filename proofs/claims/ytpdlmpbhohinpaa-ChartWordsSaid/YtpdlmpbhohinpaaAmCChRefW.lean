/- A part of a proof. Its conditions: none. -/
import Derived.Test.YtpdlmpbhohinpaaAmCChRef
set_option linter.all false
namespace Go.Proofs.Ytpdlmpbhohinpaa
open Go.AM Go.RowKit
set_option maxRecDepth 100000
def lead7 (form : List Int) : List Int := (form.takeWhile AM.neg).map fun s => -s - 1
set_option maxHeartbeats 4000000 in
theorem lead7_gives {p : Option Addr} {form : List Int} {n : Nat} {H : Heap} (hw : WF n H) (hp : RA (Value.int .i64) H p form) (hl : form.length ≤ 1000000) (hr : ∀ s ∈ form, inI s) :
    Gives Try.prog 34 [.slice p form.length form.length] n H fun v _ H' => WO n H' v (lead7 form) := by
  refine Gives.of orders ok34 (Nat.le_of_ble_eq_true rfl) ?_
  have k0 := Kp.new n H (.cells [] 3 true)
  have b0 := hset_at H n (.cells [] 3 true)
  repeat (first | refine qqn rfl ?_ | ((first | (refine WK.rgn ?_ ?_; kernel_rfl) | refine AtCall.now ?_); simp (config := {maxSteps:=999999}) only [SS, qx20, forall_const, vun, Int.reduceEq, Int.reduceNeg, Nat.reduceGT, Nat.reduceLT, Nat.reduceLeDiff, Nat.reduceEqDiff, ↓reduceIte, reduceCtorEq, Int.reduceToNat, Int.reduceLE, Int.reduceLT, Nat.reduceAdd, Nat.reduceMul, ff_34]) | refine qqj rfl ?_ | refine qqk rfl ?_)
  generalize hset H n (.cells [] 3 true) = H0 at *
  refine WK.loop (fun k s => ∃ (j y : Nat) (o : List Int), Kp n H s.n s.H ∧ s.f 0 = .slice p form.length form.length ∧ s.f 3 = .slice (some ⟨y, 0, none⟩) o.length o.length ∧ s.H y = .cells (o.map (Value.int .i64)) 3 true ∧ n ≤ y ∧ s.f 4 = .int .i64 (j : Nat) ∧ j ≤ form.length ∧ (∀ s ∈ form.take j, s < 0) ∧ o = (form.take j).map (fun s => -s - 1) ∧ k = form.length - j) form.length ?_ ?_
  · exact ⟨0, n, [], k0, rfl, rfl, b0, Nat.le_refl _, rfl, Nat.zero_le _, by simp, by simp, rfl⟩
  rintro k ⟨f, n2, H2⟩ ⟨j, y, o, kp, f0, f3, hy, hyn, f4, hj, hneg, ho, rfl⟩ ih
  simp only at f0 f3 f4 kp hy ih
  have hw2 := kp.wf hw
  have hyl : y < n2 := Classical.byContradiction fun hc => by rw [hw2 y (by omega)] at hy; cases hy
  have hol : o.length = j := by rw [ho, List.length_map, List.length_take]; omega
  by_cases hlt : j < form.length
  · obtain ⟨x, kx, ds, tx, ox, rfl, hx, ex⟩ := (hp.mono hw kp).at hlt
    have hin := hr _ (List.getElem_mem hlt)
    have htj : form.take (j + 1) = form.take j ++ [form[j]] := List.take_succ_eq_append_getElem hlt
    have hjw : IntKind.i64.wrap ((j : Int) + 1) = ((j + 1 : Nat) : Int) := by rw [wrap_in (by omega) (by omega)]; rfl
    by_cases h0 : form[j] < 0
    · have hneg' : ∀ s ∈ form.take (j + 1), s < 0 := fun s hs => by
        rw [htj] at hs
        rcases List.mem_append.1 hs with hs | hs
        · exact hneg s hs
        · have : s = form[j] := by simpa using hs
          omega
      have ho' : o ++ [-form[j] - 1] = (form.take (j + 1)).map (fun s => -s - 1) := by rw [htj, List.map_append, ← ho]; rfl
      have hn := bnot_i64 hin.1 hin.2
      generalize form[j] = t at *
      have u1 : vcells (Value.int .i64 (-t - 1)) = [Value.int .i64 (-t - 1)] := rfl
      have u2 : ([Value.int .i64 (-t - 1)] : List Value).length = 1 := rfl
      have u3 : ([Value.int .i64 (-t - 1)] : List Value).all one = true := rfl
      have u4 : Go.AM.splice [Value.int IntKind.i64 (Int.ofNat 0)] 0 [Value.int .i64 (-t - 1)] = [Value.int .i64 (-t - 1)] := rfl
      have u5 : ([Value.int .i64 (-t - 1)] : List Value).take 1 = [Value.int .i64 (-t - 1)] := rfl
      have kA := Kp.new n2 H2 (.cells [.int .i64 (-t - 1)] 3 true)
      have bA := hset_at H2 n2 (.cells [.int .i64 (-t - 1)] 3 true)
      have yA := (kA.keep y hyl).trans hy
      generalize hA : hset H2 n2 (.cells [.int .i64 (-t - 1)] 3 true) = HA at *
      have kA' := (kp.trans kA).set (x := y) .dead hyn (by omega)
      generalize hA1 : hset HA y .dead = HA1 at *
      have kB := Kp.new (n2 + 1) HA1 (.cells (o.map (.int .i64) ++ [.int .i64 (-t - 1)]) 3 true)
      have bB := hset_at HA1 (n2 + 1) (.cells (o.map (.int .i64) ++ [.int .i64 (-t - 1)]) 3 true)
      have z1 : o.length + 1 ≤ bigN := by unfold bigN; omega
      have z2 : [n2].contains y = false := by simp; omega
      have z3 : (o.map (Value.int .i64)).take o.length = o.map (.int .i64) := List.take_of_length_le (by simp)
      repeat (first | refine qqn rfl ?_ | ((first | (refine WK.rgn ?_ ?_; kernel_rfl) | refine AtCall.now ?_); simp (config := {maxSteps:=999999}) only [SS, qx20, forall_const, vun, Int.reduceEq, Int.reduceNeg, Nat.reduceGT, Nat.reduceLT, Nat.reduceLeDiff, Nat.reduceEqDiff, ↓reduceIte, reduceCtorEq, Int.reduceToNat, Int.reduceLE, Int.reduceLT, Nat.reduceAdd, Nat.reduceMul, f0, f3, f4, hlt, hx, ex, h0, hn, hA, bA, u1, u2, u3, u4, u5, yA, z1, z2, z3, hA1, hjw, List.drop_zero, List.length_map, Nat.zero_add, Nat.mul_one, ff_34]) | refine qqj rfl ?_ | refine qqk rfl ?_)
      refine ih (form.length - (j + 1)) (by omega) _ ?_
      exact ⟨j + 1, n2 + 1, o ++ [-t - 1], kA'.trans kB, f0, by rw [List.length_append]; rfl, by rw [List.map_append]; exact bB, by have := kp.le; omega, rfl, hlt, hneg', ho', rfl⟩
    · repeat (first | refine qqn rfl ?_ | ((first | (refine WK.rgn ?_ ?_; kernel_rfl) | refine AtCall.now ?_); simp (config := {maxSteps:=999999}) only [SS, qx20, forall_const, vun, Int.reduceEq, Int.reduceNeg, Nat.reduceGT, Nat.reduceLT, Nat.reduceLeDiff, Nat.reduceEqDiff, ↓reduceIte, reduceCtorEq, Int.reduceToNat, Int.reduceLE, Int.reduceLT, Nat.reduceAdd, Nat.reduceMul, f0, f3, f4, hlt, hx, ex, h0, ff_34]) | refine qqj rfl ?_ | refine qqk rfl ?_)
      (first | refine WK.retNil ⟨Or.inr rfl, _, rfl, ?_, ?_⟩ | refine WK.skipNil ⟨Or.inl rfl, _, rfl, ?_, ?_⟩)
      · exact kp.keep
      · simp only [packed, fset_apply, Nat.reduceEqDiff, ↓reduceIte, List.getD_cons_zero, List.getD_cons_succ, f3, ff_34]
        obtain ⟨e1, _⟩ := tw_at hlt hneg (by omega)
        unfold lead7
        rw [e1, ← ho]
        exact ⟨_, rfl, .inr ⟨y, rfl, hyn, hy⟩⟩
  · repeat (first | refine qqn rfl ?_ | ((first | (refine WK.rgn ?_ ?_; kernel_rfl) | refine AtCall.now ?_); simp (config := {maxSteps:=999999}) only [SS, qx20, forall_const, vun, Int.reduceEq, Int.reduceNeg, Nat.reduceGT, Nat.reduceLT, Nat.reduceLeDiff, Nat.reduceEqDiff, ↓reduceIte, reduceCtorEq, Int.reduceToNat, Int.reduceLE, Int.reduceLT, Nat.reduceAdd, Nat.reduceMul, f0, f3, f4, hlt, ff_34]) | refine qqj rfl ?_ | refine qqk rfl ?_)
    (first | refine WK.retNil ⟨Or.inr rfl, _, rfl, ?_, ?_⟩ | refine WK.skipNil ⟨Or.inl rfl, _, rfl, ?_, ?_⟩)
    · exact kp.keep
    · simp only [packed, fset_apply, Nat.reduceEqDiff, ↓reduceIte, List.getD_cons_zero, List.getD_cons_succ, f3, ff_34]
      rw [List.take_of_length_le (by omega)] at hneg ho
      obtain ⟨e1, _⟩ := tw_all hneg
      unfold lead7
      rw [e1, ← ho]
      exact ⟨_, rfl, .inr ⟨y, rfl, hyn, hy⟩⟩
set_option maxHeartbeats 8000000 in
theorem long_gives {v : Value} {g : Gram} {p : Option Addr} {form : List Int} {n : Nat} {H : Heap} (hw : WF n H) (hg : RG H v g) (wg : WG g) (ok : RightOK g) {c : Nat → Nat} {b : Nat → Int} (hc : CostOK g c b) (hp : RA (Value.int .i64) H p form) (hl : form.length ≤ 1000000) (hs : ∀ s ∈ form, s < g.vars.length) :
    Gives Try.prog 31 [v, .slice p form.length form.length] n H fun v _ _ => v = .int .i64 (sumF c 0 form : Nat) := by
  have hg0 := hg
  obtain ⟨pt, pv, pr, rfl, ht, hv, hr⟩ := hg
  refine Gives.of orders ok31 (Nat.le_of_ble_eq_true rfl) ?_
  have hk := Kp.new n H (.cells (gcells pt pv pr g) 25 true)
  have hb := hset_at H n (.cells (gcells pt pv pr g) 25 true)
  repeat (first | refine qqn rfl ?_)
  (refine WK.rgn ?_ ?_; kernel_rfl; simp (config := {maxSteps:=999999}) only [SS, qx4, forall_const, Int.reduceEq, Int.reduceNeg, Nat.reduceGT, Nat.reduceLT, Nat.reduceLeDiff, Nat.reduceEqDiff, ↓reduceIte, reduceCtorEq, Int.reduceToNat, Int.reduceLE, Int.reduceLT, Nat.reduceAdd, Nat.reduceMul, box_cells, box_one, ff_31])
  generalize hset H n (.cells (gcells pt pv pr g) 25 true) = H1 at *
  repeat (first | refine qqn rfl ?_ | ((first | (refine WK.rgn ?_ ?_; kernel_rfl) | refine AtCall.now ?_); simp (config := {maxSteps:=999999}) only [SS, qx4, forall_const, Int.reduceEq, Int.reduceNeg, Nat.reduceGT, Nat.reduceLT, Nat.reduceLeDiff, Nat.reduceEqDiff, ↓reduceIte, reduceCtorEq, Int.reduceToNat, Int.reduceLE, Int.reduceLT, Nat.reduceAdd, Nat.reduceMul, hb, gc_len, gc_all, ff_31]) | refine qqj rfl ?_ | refine qqk rfl ?_)
  refine AtCall.by (costR_gives (hk.wf hw) (hg0.mono hw hk) wg ok hc) ?_
  rintro v n2 H2 k2 ⟨cl, x, hx0, rfl, hcl, hx, hcv⟩
  have kk := hk.trans k2
  have hp2 := hp.mono hw kk
  simp (config := {maxSteps:=999999}) only [SS, qx4, forall_const, Int.reduceEq, Int.reduceNeg, Nat.reduceGT, Nat.reduceLT, Nat.reduceLeDiff, Nat.reduceEqDiff, ↓reduceIte, reduceCtorEq, Int.reduceToNat, Int.reduceLE, Int.reduceLT, Nat.reduceAdd, Nat.reduceMul, ff_31]
  repeat (first | refine qqn rfl ?_ | ((first | (refine WK.rgn ?_ ?_; kernel_rfl) | refine AtCall.now ?_); simp (config := {maxSteps:=999999}) only [SS, qx4, forall_const, Int.reduceEq, Int.reduceNeg, Nat.reduceGT, Nat.reduceLT, Nat.reduceLeDiff, Nat.reduceEqDiff, ↓reduceIte, reduceCtorEq, Int.reduceToNat, Int.reduceLE, Int.reduceLT, Nat.reduceAdd, Nat.reduceMul, ff_31]) | refine qqj rfl ?_ | refine qqk rfl ?_)
  refine WK.loop (fun k s => ∃ j : Nat, s.n = n2 ∧ s.H = H2 ∧ s.f 1 = .slice p form.length form.length ∧ s.f 5 = .slice (some ⟨x, 0, none⟩) g.vars.length g.vars.length ∧ s.f 6 = .int .i64 (sumF c 0 (form.take j) : Nat) ∧ s.f 7 = .int .i64 (j : Nat) ∧ j ≤ form.length ∧ k = form.length - j) form.length ?_ ?_
  · exact ⟨0, rfl, rfl, rfl, rfl, rfl, rfl, Nat.zero_le _, rfl⟩
  rintro k ⟨f, n3, H3⟩ ⟨j, rfl, rfl, f1, f5, f6, f7, hj, rfl⟩ ih
  simp only at f1 f5 f6 f7 hx hp2 ih kk k2
  have hfar : farN = 1073741824 := rfl
  by_cases hlt : j < form.length
  · obtain ⟨z, kz, ds, tz, oz, rfl, hz, ez⟩ := hp2.at hlt
    have hjw : IntKind.i64.wrap ((j : Int) + 1) = ((j + 1 : Nat) : Int) := by rw [wrap_in (by omega) (by omega)]; rfl
    have htj : form.take (j + 1) = form.take j ++ [form[j]] := List.take_succ_eq_append_getElem hlt
    have hsn := sumF_snoc c (form.take j) 0 form[j]
    rw [← htj] at hsn
    have hle := sumF_le c (form.take j) 0
    rw [List.length_take] at hle
    have hsv := hs _ (List.getElem_mem hlt)
    generalize sumF c 0 (form.take j) = a at *
    generalize form[j] = t at *
    by_cases h0 : t < 0
    · rw [if_pos h0] at hsn
      have hadd : IntKind.wrap .i64 ((a : Int) + 1) = ((a + 1 : Nat) : Int) := by rw [wrap_in (by omega) (by omega)]; rfl
      repeat (first | refine qqn rfl ?_ | ((first | (refine WK.rgn ?_ ?_; kernel_rfl) | refine AtCall.now ?_); simp (config := {maxSteps:=999999}) only [SS, qx4, forall_const, Int.reduceEq, Int.reduceNeg, Nat.reduceGT, Nat.reduceLT, Nat.reduceLeDiff, Nat.reduceEqDiff, ↓reduceIte, reduceCtorEq, Int.reduceToNat, Int.reduceLE, Int.reduceLT, Nat.reduceAdd, Nat.reduceMul, f1, f5, f6, f7, hlt, hz, ez, h0, hadd, hjw, ff_31]) | refine qqj rfl ?_ | refine qqk rfl ?_)
      refine ih (form.length - (j + 1)) (by omega) _ ?_
      refine ⟨j + 1, rfl, rfl, f1, f5, ?_, rfl, hlt, rfl⟩
      rw [hsn]; rfl
    · rw [if_neg h0] at hsn
      obtain ⟨q, rfl⟩ := Int.eq_ofNat_of_zero_le (show 0 ≤ t by omega)
      rw [Int.toNat_natCast] at hsn
      have hq : q < g.vars.length := by omega
      have hqc : q < cl.length := by omega
      have hcq : c q = cl[q] := by rw [← hcv q hq]; simp [cF, hqc]
      have hcap := hc.cap q hq
      have e : (cl.map natC)[q]? = some (.int .i64 (c q : Nat)) := by rw [List.getElem?_map, List.getElem?_eq_getElem hqc, hcq]; rfl
      have h0q : ¬ ((q : Int) < 0) := by omega
      have hadd : IntKind.wrap .i64 ((a : Int) + (c q : Int)) = ((a + c q : Nat) : Int) := by rw [wrap_in (by omega) (by omega)]; rfl
      have hmin : (if (1073741824 : Int) < ((a + c q : Nat) : Int) then (1073741824 : Int) else ((a + c q : Nat) : Int)) = ((min (a + c q) farN : Nat) : Int) := by rw [hfar]; split <;> omega
      repeat (first | refine qqn rfl ?_ | ((first | (refine WK.rgn ?_ ?_; kernel_rfl) | refine AtCall.now ?_); simp (config := {maxSteps:=999999}) only [SS, qx4, forall_const, Int.reduceEq, Int.reduceNeg, Nat.reduceGT, Nat.reduceLT, Nat.reduceLeDiff, Nat.reduceEqDiff, ↓reduceIte, reduceCtorEq, Int.reduceToNat, Int.reduceLE, Int.reduceLT, Nat.reduceAdd, Nat.reduceMul, f1, f5, f6, f7, hlt, hz, ez, h0q, hq, hx, e, Nat.zero_add, hadd, aop_min, tmm, Bool.false_eq_true, hmin, hjw, ff_31]) | refine qqj rfl ?_ | refine qqk rfl ?_)
      refine ih (form.length - (j + 1)) (by omega) _ ?_
      refine ⟨j + 1, rfl, rfl, f1, f5, ?_, rfl, hlt, rfl⟩
      rw [hsn]; rfl
  · repeat (first | refine qqn rfl ?_ | ((first | (refine WK.rgn ?_ ?_; kernel_rfl) | refine AtCall.now ?_); simp (config := {maxSteps:=999999}) only [SS, qx4, forall_const, Int.reduceEq, Int.reduceNeg, Nat.reduceGT, Nat.reduceLT, Nat.reduceLeDiff, Nat.reduceEqDiff, ↓reduceIte, reduceCtorEq, Int.reduceToNat, Int.reduceLE, Int.reduceLT, Nat.reduceAdd, Nat.reduceMul, f1, f5, f6, f7, hlt, ff_31]) | refine qqj rfl ?_ | refine qqk rfl ?_)
    (first | refine WK.retNil ⟨Or.inr rfl, _, rfl, ?_, ?_⟩ | refine WK.skipNil ⟨Or.inl rfl, _, rfl, ?_, ?_⟩)
    · exact kk.keep
    · simp only [packed, fset_apply, Nat.reduceEqDiff, ↓reduceIte, List.getD_cons_zero, List.getD_cons_succ, f6, ff_31]
      rw [List.take_of_length_le (by omega)]
def LA (H : Heap) (cs : List Value) (ls : List (List Int)) : Prop := cs.length = ls.length ∧ ∀ (i : Nat) (l : List Int), ls[i]? = some l → ∃ p : Option Addr, cs[i]? = some (Value.slice p l.length l.length) ∧ RA (Value.int .i64) H p l
def RI (H : Heap) (p : Option Addr) (l : List Int) : Prop := ∃ x k ds own, p = some ⟨x, k, none⟩ ∧ H x = .cells ds 3 own ∧ k + l.length ≤ ds.length ∧ ∀ i y, l[i]? = some y → ds[k + i]? = some (.int .i64 y)
def LT (H : Heap) (cs : List Value) (ls : List (List Int)) : Prop := cs.length = ls.length ∧ ∀ (i : Nat) (l : List Int), ls[i]? = some l → ∃ p : Option Addr, cs[i]? = some (Value.slice p l.length l.length) ∧ RI H p l
theorem RI.rs {H : Heap} {p : Option Addr} {l : List Int} (h : RI H p l) : RS (Value.int .i64) H p l := by
  obtain ⟨x, k, ds, own, a, b, c, d⟩ := h
  exact .inr ⟨x, k, ds, _, own, a, b, c, d⟩
theorem LT.la {H : Heap} {cs : List Value} {ls : List (List Int)} (h : LT H cs ls) : LA H cs ls := ⟨h.1, fun i l hi => by
  obtain ⟨p, a, b⟩ := h.2 i l hi
  exact ⟨p, a, b.rs.ra⟩⟩
theorem LA.kp {n n' : Nat} {H H' : Heap} {cs : List Value} {ls : List (List Int)} (h : LA H cs ls) (hw : WF n H) (k : Kp n H n' H') : LA H' cs ls := ⟨h.1, fun i l hi => by
  obtain ⟨p, a, b⟩ := h.2 i l hi
  exact ⟨p, a, b.mono hw k⟩⟩
theorem RI.keep {H H' : Heap} {p : Option Addr} {l : List Int} (h : RI H p l) (hk : ∀ x ds own, H x = .cells ds 3 own → H' x = H x) : RI H' p l := by
  obtain ⟨x, k, ds, own, a, b, c⟩ := h
  exact ⟨x, k, ds, own, a, (hk x ds own b).trans b, c⟩
theorem LT.keep {H H' : Heap} {cs : List Value} {ls : List (List Int)} (h : LT H cs ls) (hk : ∀ x ds own, H x = .cells ds 3 own → H' x = H x) : LT H' cs ls := ⟨h.1, fun i l hi => by
  obtain ⟨p, a, b⟩ := h.2 i l hi
  exact ⟨p, a, b.keep hk⟩⟩
theorem LT.kp {n n' : Nat} {H H' : Heap} {cs : List Value} {ls : List (List Int)} (h : LT H cs ls) (hw : WF n H) (k : Kp n H n' H') : LT H' cs ls := h.keep fun x ds own e => k.keep x (Classical.byContradiction fun hc => by rw [hw x (by omega)] at e; cases e)
theorem has_gives {z : Nat} {pa : Option Addr} {cs : List Value} {ls : List (List Int)} {a : List Int} {ty : TypeId} {own : Bool} {n : Nat} {H : Heap} (hz : H z = .cells cs ty own) (hl : LA H cs ls) (hls : ls.length ≤ 1000000) (ha : RA (Value.int .i64) H pa a) (hal : a.length ≤ 1000000) (hll : ∀ l ∈ ls, l.length ≤ 1000000) :
    Gives Try.prog 18 [.slice (some ⟨z, 0, none⟩) ls.length ls.length, .slice pa a.length a.length] n H fun v n' H' => v = .bool (hasL ls a) ∧ n' = n ∧ H' = H := by
  refine Gives.of orders ok18 (Nat.le_of_ble_eq_true rfl) ?_
  repeat (first | refine qqn rfl ?_ | ((first | (refine WK.rgn ?_ ?_; kernel_rfl) | refine AtCall.now ?_); simp (config := {maxSteps:=999999}) only [SS, qx10, forall_const, Int.reduceEq, Int.reduceNeg, Nat.reduceGT, Nat.reduceLT, Nat.reduceLeDiff, Nat.reduceEqDiff, ↓reduceIte, reduceCtorEq, Int.reduceToNat, Int.reduceLE, Int.reduceLT, Nat.reduceAdd, Nat.reduceMul, ff_18]) | refine qqj rfl ?_ | refine qqk rfl ?_)
  refine WK.loop (fun k s => ∃ j : Nat, s.n = n ∧ s.H = H ∧ s.f 0 = .slice (some ⟨z, 0, none⟩) ls.length ls.length ∧ s.f 1 = .slice pa a.length a.length ∧ s.f 5 = .int .i64 (j : Nat) ∧ j ≤ ls.length ∧ hasL (ls.take j) a = false ∧ k = ls.length - j) ls.length ?_ ?_
  · exact ⟨0, rfl, rfl, rfl, rfl, rfl, Nat.zero_le _, rfl, rfl⟩
  rintro k ⟨f, n1, H1⟩ ⟨j, rfl, rfl, f0, f1, f5, hj, hn, rfl⟩ ih
  simp only at f0 f1 f5 hz hl ha ih
  by_cases hlt : j < ls.length
  · obtain ⟨p, c1, c2⟩ := hl.2 j _ (List.getElem?_eq_getElem hlt)
    have hjw : IntKind.i64.wrap ((j : Int) + 1) = ((j + 1 : Nat) : Int) := by rw [wrap_in (by omega) (by omega)]; rfl
    have htj : ls.take (j + 1) = ls.take j ++ [ls[j]] := List.take_succ_eq_append_getElem hlt
    have hlj := hll _ (List.getElem_mem hlt)
    repeat (first | refine qqn rfl ?_ | ((first | (refine WK.rgn ?_ ?_; kernel_rfl) | refine AtCall.now ?_); simp (config := {maxSteps:=999999}) only [SS, qx10, forall_const, Int.reduceEq, Int.reduceNeg, Nat.reduceGT, Nat.reduceLT, Nat.reduceLeDiff, Nat.reduceEqDiff, ↓reduceIte, reduceCtorEq, Int.reduceToNat, Int.reduceLE, Int.reduceLT, Nat.reduceAdd, Nat.reduceMul, f0, f1, f5, hlt, hz, c1, Nat.zero_add, ff_18]) | refine qqj rfl ?_ | refine qqk rfl ?_)
    refine AtCall.by (same_gives c2 ha (by unfold maxL; omega) (by unfold maxL; omega)) ?_
    rintro v n2 H2 k2 ⟨rfl, rfl, rfl⟩
    cases hs : same ls[j] a with
    | true =>
      simp (config := {maxSteps:=999999}) only [SS, qx10, forall_const, Int.reduceEq, Int.reduceNeg, Nat.reduceGT, Nat.reduceLT, Nat.reduceLeDiff, Nat.reduceEqDiff, ↓reduceIte, reduceCtorEq, Int.reduceToNat, Int.reduceLE, Int.reduceLT, Nat.reduceAdd, Nat.reduceMul, ff_18]
      repeat (first | refine qqn rfl ?_ | ((first | (refine WK.rgn ?_ ?_; kernel_rfl) | refine AtCall.now ?_); simp (config := {maxSteps:=999999}) only [SS, qx10, forall_const, Int.reduceEq, Int.reduceNeg, Nat.reduceGT, Nat.reduceLT, Nat.reduceLeDiff, Nat.reduceEqDiff, ↓reduceIte, reduceCtorEq, Int.reduceToNat, Int.reduceLE, Int.reduceLT, Nat.reduceAdd, Nat.reduceMul, ff_18]) | refine qqj rfl ?_ | refine qqk rfl ?_)
      (first | refine WK.retNil ⟨Or.inr rfl, _, rfl, ?_, ?_⟩ | refine WK.skipNil ⟨Or.inl rfl, _, rfl, ?_, ?_⟩)
      · exact fun _ _ => rfl
      · simp only [packed, fset_apply, Nat.reduceEqDiff, ↓reduceIte, List.getD_cons_zero, List.getD_cons_succ, ff_18]
        have : hasL ls a = true := by unfold hasL; rw [List.any_eq_true]; exact ⟨_, List.getElem_mem hlt, hs⟩
        rw [this]; exact ⟨rfl, trivial, trivial⟩
    | false =>
      simp (config := {maxSteps:=999999}) only [SS, qx10, forall_const, Int.reduceEq, Int.reduceNeg, Nat.reduceGT, Nat.reduceLT, Nat.reduceLeDiff, Nat.reduceEqDiff, ↓reduceIte, reduceCtorEq, Int.reduceToNat, Int.reduceLE, Int.reduceLT, Nat.reduceAdd, Nat.reduceMul, ff_18]
      repeat (first | refine qqn rfl ?_ | ((first | (refine WK.rgn ?_ ?_; kernel_rfl) | refine AtCall.now ?_); simp (config := {maxSteps:=999999}) only [SS, qx10, forall_const, Int.reduceEq, Int.reduceNeg, Nat.reduceGT, Nat.reduceLT, Nat.reduceLeDiff, Nat.reduceEqDiff, ↓reduceIte, reduceCtorEq, Int.reduceToNat, Int.reduceLE, Int.reduceLT, Nat.reduceAdd, Nat.reduceMul, f5, hjw, ff_18]) | refine qqj rfl ?_ | refine qqk rfl ?_)
      refine ih (ls.length - (j + 1)) (by omega) _ ?_
      refine ⟨j + 1, rfl, rfl, f0, f1, rfl, hlt, ?_, rfl⟩
      unfold hasL at hn ⊢
      rw [htj, List.any_append, hn]; simp [hs]
  · repeat (first | refine qqn rfl ?_ | ((first | (refine WK.rgn ?_ ?_; kernel_rfl) | refine AtCall.now ?_); simp (config := {maxSteps:=999999}) only [SS, qx10, forall_const, Int.reduceEq, Int.reduceNeg, Nat.reduceGT, Nat.reduceLT, Nat.reduceLeDiff, Nat.reduceEqDiff, ↓reduceIte, reduceCtorEq, Int.reduceToNat, Int.reduceLE, Int.reduceLT, Nat.reduceAdd, Nat.reduceMul, f0, f1, f5, hlt, ff_18]) | refine qqj rfl ?_ | refine qqk rfl ?_)
    (first | refine WK.retNil ⟨Or.inr rfl, _, rfl, ?_, ?_⟩ | refine WK.skipNil ⟨Or.inl rfl, _, rfl, ?_, ?_⟩)
    · exact fun _ _ => rfl
    · simp only [packed, fset_apply, Nat.reduceEqDiff, ↓reduceIte, List.getD_cons_zero, List.getD_cons_succ, ff_18]
      rw [List.take_of_length_le (by omega)] at hn
      rw [hn]; exact ⟨rfl, trivial, trivial⟩
theorem begins_gives {pa pb : Option Addr} {x h : List Int} {n : Nat} {H : Heap} (ha : RI H pa x) (hb : RA (Value.int .i64) H pb h) (hxl : x.length ≤ 1000000) (hhl : h.length ≤ 1000000) :
    Gives Try.prog 24 [.slice pa x.length x.length, .slice pb h.length h.length] n H fun v n' H' => v = .bool (decide (h.length ≤ x.length ∧ x.take h.length = h)) ∧ n' = n ∧ H' = H := by
  refine Gives.of orders ok24 (Nat.le_of_ble_eq_true rfl) ?_
  obtain ⟨z, kz, ds, oz, rfl, hz, hzl, hze⟩ := ha
  have hsz : isz Try.prog 3 = some 1 := by kernel_rfl
  by_cases hle : h.length ≤ x.length
  · repeat (first | refine qqn rfl ?_ | ((first | (refine WK.rgn ?_ ?_; kernel_rfl) | refine AtCall.now ?_); simp (config := {maxSteps:=999999}) only [SS, qx45, forall_const, Int.reduceEq, Int.reduceNeg, Nat.reduceGT, Nat.reduceLT, Nat.reduceLeDiff, Nat.reduceEqDiff, ↓reduceIte, reduceCtorEq, Int.reduceToNat, Int.reduceLE, Int.reduceLT, Nat.reduceAdd, Nat.reduceMul, hle, hz, hsz, implies_true, and_self, Nat.zero_le, Nat.sub_zero, Nat.zero_mul, Nat.add_zero, ff_24]) | refine qqj rfl ?_ | refine qqk rfl ?_)
    have hl : (x.take h.length).length = h.length := by rw [List.length_take]; omega
    have hr : RA (Value.int .i64) H (some ⟨z, kz, none⟩) (x.take h.length) := fun _ => ⟨z, kz, ds, _, oz, rfl, hz, fun i y e => hze i y (by rw [List.getElem?_take] at e; split at e; exact e; cases e)⟩
    have hs := same_gives (n := n) hr hb (by unfold maxL; omega) (by unfold maxL; omega)
    rw [hl] at hs
    refine AtCall.by hs ?_
    rintro v n2 H2 k2 ⟨rfl, rfl, rfl⟩
    simp (config := {maxSteps:=999999}) only [SS, qx45, forall_const, Int.reduceEq, Int.reduceNeg, Nat.reduceGT, Nat.reduceLT, Nat.reduceLeDiff, Nat.reduceEqDiff, ↓reduceIte, reduceCtorEq, Int.reduceToNat, Int.reduceLE, Int.reduceLT, Nat.reduceAdd, Nat.reduceMul, ff_24]
    repeat (first | refine qqn rfl ?_ | ((first | (refine WK.rgn ?_ ?_; kernel_rfl) | refine AtCall.now ?_); simp (config := {maxSteps:=999999}) only [SS, qx45, forall_const, Int.reduceEq, Int.reduceNeg, Nat.reduceGT, Nat.reduceLT, Nat.reduceLeDiff, Nat.reduceEqDiff, ↓reduceIte, reduceCtorEq, Int.reduceToNat, Int.reduceLE, Int.reduceLT, Nat.reduceAdd, Nat.reduceMul, ff_24]) | refine qqj rfl ?_ | refine qqk rfl ?_)
    (first | refine WK.retNil ⟨Or.inr rfl, _, rfl, ?_, ?_⟩ | refine WK.skipNil ⟨Or.inl rfl, _, rfl, ?_, ?_⟩)
    · exact fun _ _ => rfl
    · simp only [packed, fset_apply, Nat.reduceEqDiff, ↓reduceIte, List.getD_cons_zero, List.getD_cons_succ, ff_24]
      refine ⟨?_, trivial, trivial⟩
      congr 1
      rw [Bool.eq_iff_iff, same_iff, decide_eq_true_eq]
  · have hle' : ¬ ((h.length : Int) ≤ (x.length : Int)) := by omega
    repeat (first | refine qqn rfl ?_ | ((first | (refine WK.rgn ?_ ?_; kernel_rfl) | refine AtCall.now ?_); simp (config := {maxSteps:=999999}) only [SS, qx45, forall_const, Int.reduceEq, Int.reduceNeg, Nat.reduceGT, Nat.reduceLT, Nat.reduceLeDiff, Nat.reduceEqDiff, ↓reduceIte, reduceCtorEq, Int.reduceToNat, Int.reduceLE, Int.reduceLT, Nat.reduceAdd, Nat.reduceMul, hle, ff_24]) | refine qqj rfl ?_ | refine qqk rfl ?_)
    (first | refine WK.retNil ⟨Or.inr rfl, _, rfl, ?_, ?_⟩ | refine WK.skipNil ⟨Or.inl rfl, _, rfl, ?_, ?_⟩)
    · exact fun _ _ => rfl
    · simp only [packed, fset_apply, Nat.reduceEqDiff, ↓reduceIte, List.getD_cons_zero, List.getD_cons_succ, ff_24]
      simp [hle]
def insF (a : List Int) (st : List (List Int) × Bool) (x : List Int) : List (List Int) × Bool := if !st.2 && less a x then (st.1 ++ [a] ++ [x], true) else (st.1 ++ [x], st.2)
theorem insF_done (a : List Int) : ∀ (ls R : List (List Int)), ls.foldl (insF a) (R, true) = (R ++ ls, true) := by
  intro ls
  induction ls with
  | nil => intro R; simp
  | cons x ls ih => intro R; rw [List.foldl_cons]; simp only [insF, Bool.not_true, Bool.false_and]; rw [if_neg (by simp), ih]; simp
theorem insF_eq (a : List Int) : ∀ (ls R : List (List Int)), (if (ls.foldl (insF a) (R, false)).2 then (ls.foldl (insF a) (R, false)).1 else (ls.foldl (insF a) (R, false)).1 ++ [a]) = R ++ insL a ls := by
  intro ls
  induction ls with
  | nil => intro R; simp [insL]
  | cons x ls ih =>
    intro R
    rw [List.foldl_cons]
    unfold insL
    cases h : less a x with
    | true =>
      have e : insF a (R, false) x = (R ++ [a] ++ [x], true) := by simp [insF, h]
      rw [e, insF_done]; simp
    | false =>
      have e : insF a (R, false) x = (R ++ [x], false) := by simp [insF, h]
      rw [e, ih]; simp
theorem insF_snoc {a : List Int} {ls : List (List Int)} {j : Nat} (hj : j < ls.length) : (ls.take (j + 1)).foldl (insF a) ([], false) = insF a ((ls.take j).foldl (insF a) ([], false)) ls[j] := by
  rw [List.take_succ_eq_append_getElem hj, List.foldl_append]; rfl
theorem LT.push {H : Heap} {cs : List Value} {ls : List (List Int)} {p : Option Addr} {l : List Int} (h : LT H cs ls) (hp : RI H p l) : LT H (cs ++ [.slice p l.length l.length]) (ls ++ [l]) := by
  refine ⟨by simp [h.1], fun i x hx => ?_⟩
  rcases Nat.lt_or_ge i ls.length with hi | hi
  · rw [List.getElem?_append_left hi] at hx
    rw [List.getElem?_append_left (by rw [h.1]; exact hi)]
    exact h.2 i x hx
  · rw [List.getElem?_append_right hi] at hx
    cases hq : i - ls.length with
    | succ q => rw [hq] at hx; simp at hx
    | zero =>
      rw [hq] at hx
      simp at hx
      subst hx
      have : i = cs.length := by rw [h.1]; omega
      subst this
      exact ⟨p, by simp, hp⟩
theorem insF_len (a : List Int) : ∀ (ls : List (List Int)) (R : List (List Int)) (d : Bool), (ls.foldl (insF a) (R, d)).1.length ≤ R.length + 2 * ls.length := by
  intro ls
  induction ls with
  | nil => intro R d; simp
  | cons x ls ih =>
    intro R d
    rw [List.foldl_cons]
    have : insF a (R, d) x = ((insF a (R, d) x).1, (insF a (R, d) x).2) := rfl
    rw [this]
    have h1 := ih (insF a (R, d) x).1 (insF a (R, d) x).2
    have h2 : (insF a (R, d) x).1.length ≤ R.length + 2 := by unfold insF; split <;> simp
    simp only [List.length_cons]
    omega
theorem LT.dead {H : Heap} {cs ds : List Value} {ls : List (List Int)} {y : Nat} {own : Bool} (h : LT H cs ls) (hy : H y = .cells ds 26 own) : LT (hset H y .dead) cs ls := h.keep fun x ds' own' e => hset_ne _ _ _ (by rintro rfl; rw [hy] at e; cases e)
theorem RI.dead {H : Heap} {p : Option Addr} {l : List Int} {ds : List Value} {y : Nat} {own : Bool} (h : RI H p l) (hy : H y = .cells ds 26 own) : RI (hset H y .dead) p l := h.keep fun x ds' own' e => hset_ne _ _ _ (by rintro rfl; rw [hy] at e; cases e)
theorem RI.kp {n n' : Nat} {H H' : Heap} {p : Option Addr} {l : List Int} (h : RI H p l) (hw : WF n H) (k : Kp n H n' H') : RI H' p l := h.keep fun x ds own e => k.keep x (Classical.byContradiction fun hc => by rw [hw x (by omega)] at e; cases e)
set_option maxHeartbeats 16000000 in
theorem add_gives17 {z : Nat} {pa : Option Addr} {cs : List Value} {ls : List (List Int)} {a : List Int} {n : Nat} {H : Heap} (hw : WF n H) (hz : H z = .cells cs 26 true) (hl : LT H cs ls) (hls : ls.length ≤ 1000) (ha : WO 0 H (.slice pa a.length a.length) a) (hal : a.length ≤ 1000) (hll : ∀ l ∈ ls, l.length ≤ 1000000) :
    Gives Try.prog 33 [.slice (some ⟨z, 0, none⟩) ls.length ls.length, .slice pa a.length a.length] n H fun v n' H' => ∃ z' cs', v = .slice (some ⟨z', 0, none⟩) (addL ls a).length (addL ls a).length ∧ (z' = z ∨ n ≤ z') ∧ z' < n' ∧ H' z' = .cells cs' 26 true ∧ LT H' cs' (addL ls a) := by
  refine Gives.of orders ok33 (Nat.le_of_ble_eq_true rfl) ?_
  have hzn : z < n := Classical.byContradiction fun hc => by rw [hw z (by omega)] at hz; cases hz
  obtain ⟨pa', ea, hra⟩ := ha.rs
  cases ea
  repeat (first | refine qqn rfl ?_ | ((first | (refine WK.rgn ?_ ?_; kernel_rfl) | refine AtCall.now ?_); simp (config := {maxSteps:=999999}) only [SS, qx20, forall_const, vun, Int.reduceEq, Int.reduceNeg, Nat.reduceGT, Nat.reduceLT, Nat.reduceLeDiff, Nat.reduceEqDiff, ↓reduceIte, reduceCtorEq, Int.reduceToNat, Int.reduceLE, Int.reduceLT, Nat.reduceAdd, Nat.reduceMul, ff_33]) | refine qqj rfl ?_ | refine qqk rfl ?_)
  refine AtCall.by (has_gives hz hl.la (by omega) hra.ra (by omega) hll) ?_
  rintro v n1 H1 k1 ⟨rfl, rfl, rfl⟩
  cases hh : hasL ls a with
  | true =>
    simp (config := {maxSteps:=999999}) only [SS, qx20, forall_const, vun, Int.reduceEq, Int.reduceNeg, Nat.reduceGT, Nat.reduceLT, Nat.reduceLeDiff, Nat.reduceEqDiff, ↓reduceIte, reduceCtorEq, Int.reduceToNat, Int.reduceLE, Int.reduceLT, Nat.reduceAdd, Nat.reduceMul, ff_33]
    repeat (first | refine qqn rfl ?_ | ((first | (refine WK.rgn ?_ ?_; kernel_rfl) | refine AtCall.now ?_); simp (config := {maxSteps:=999999}) only [SS, qx20, forall_const, vun, Int.reduceEq, Int.reduceNeg, Nat.reduceGT, Nat.reduceLT, Nat.reduceLeDiff, Nat.reduceEqDiff, ↓reduceIte, reduceCtorEq, Int.reduceToNat, Int.reduceLE, Int.reduceLT, Nat.reduceAdd, Nat.reduceMul, ff_33]) | refine qqj rfl ?_ | refine qqk rfl ?_)
    (first | refine WK.retNil ⟨Or.inr rfl, _, rfl, ?_, ?_⟩ | refine WK.skipNil ⟨Or.inl rfl, _, rfl, ?_, ?_⟩)
    · exact fun _ _ => rfl
    · simp only [packed, fset_apply, Nat.reduceEqDiff, ↓reduceIte, List.getD_cons_zero, List.getD_cons_succ, ff_33]
      have e : addL ls a = ls := by unfold addL; rw [hh]; rfl
      rw [e]
      exact ⟨z, cs, rfl, .inl rfl, hzn, hz, hl⟩
  | false =>
    have hadd : addL ls a = insL a ls := by unfold addL; rw [hh]; rfl
    have k0 := Kp.new n1 H1 (.cells [] 26 true)
    have b0 := hset_at H1 n1 (.cells [] 26 true)
    simp (config := {maxSteps:=999999}) only [SS, qx20, forall_const, vun, Int.reduceEq, Int.reduceNeg, Nat.reduceGT, Nat.reduceLT, Nat.reduceLeDiff, Nat.reduceEqDiff, ↓reduceIte, reduceCtorEq, Int.reduceToNat, Int.reduceLE, Int.reduceLT, Nat.reduceAdd, Nat.reduceMul, ff_33]
    repeat (first | refine qqn rfl ?_ | ((first | (refine WK.rgn ?_ ?_; kernel_rfl) | refine AtCall.now ?_); simp (config := {maxSteps:=999999}) only [SS, qx20, forall_const, vun, Int.reduceEq, Int.reduceNeg, Nat.reduceGT, Nat.reduceLT, Nat.reduceLeDiff, Nat.reduceEqDiff, ↓reduceIte, reduceCtorEq, Int.reduceToNat, Int.reduceLE, Int.reduceLT, Nat.reduceAdd, Nat.reduceMul, ff_33]) | refine qqj rfl ?_ | refine qqk rfl ?_)
    generalize hset H1 n1 (.cells [] 26 true) = H0 at *
    refine WK.loop (fun k s => ∃ (j y : Nat) (R : List (List Int)) (d : Bool) (ds : List Value), Kp n1 H1 s.n s.H ∧ s.f 0 = .slice (some ⟨z, 0, none⟩) ls.length ls.length ∧ s.f 1 = .slice pa a.length a.length ∧ s.f 5 = .slice (some ⟨y, 0, none⟩) R.length R.length ∧ s.H y = .cells ds 26 true ∧ n1 ≤ y ∧ LT s.H ds R ∧ s.f 6 = .bool d ∧ s.f 7 = .int .i64 (j : Nat) ∧ j ≤ ls.length ∧ (R, d) = (ls.take j).foldl (insF a) ([], false) ∧ k = ls.length - j) ls.length ?_ ?_
    · exact ⟨0, n1, [], false, [], k0, rfl, rfl, rfl, b0, Nat.le_refl _, ⟨rfl, fun i l h => by cases h⟩, rfl, rfl, Nat.zero_le _, rfl, rfl⟩
    rintro k ⟨f, n2, H2⟩ ⟨j, y, R, d, ds, kp, f0, f1, f5, hy, hyn, hR, f6, f7, hj, hRd, rfl⟩ ih
    simp only at f0 f1 f5 f6 f7 kp hy hR ih
    have hw2 := kp.wf hw
    have hyl : y < n2 := Classical.byContradiction fun hc => by rw [hw2 y (by omega)] at hy; cases hy
    have hRl : R.length ≤ 2 * ls.length := by
      have := insF_len a (ls.take j) [] false
      rw [← hRd] at this
      simp only [List.length_nil, List.length_take] at this
      omega
    have ha2 : WO 0 H2 (.slice pa a.length a.length) a := ha.kp hw kp
    have hra2 := hra.mono hw kp
    have hsz : isz Try.prog 3 = some 1 := by kernel_rfl
    by_cases hlt : j < ls.length
    · obtain ⟨p, c1, c2⟩ := (hl.kp hw kp).2 j _ (List.getElem?_eq_getElem hlt)
      have hz2 := (kp.keep z hzn).trans hz
      have hjw : IntKind.i64.wrap ((j : Int) + 1) = ((j + 1 : Nat) : Int) := by rw [wrap_in (by omega) (by omega)]; rfl
      have hsn := insF_snoc (a := a) hlt
      rw [← hRd] at hsn
      have hlj := hll _ (List.getElem_mem hlt)
      generalize ls[j] = x at *
      have v1 : R.length + 1 ≤ bigN := by unfold bigN; omega
      have v1' : R.length + 1 + 1 ≤ bigN := by unfold bigN; omega
      have v0 : a.length ≤ bigN := by unfold bigN; omega
      have hds : ds.take R.length = ds := List.take_of_length_le (by rw [hR.1]; exact Nat.le_refl _)
      have hdl : R.length ≤ ds.length := by rw [hR.1]; exact Nat.le_refl _
      cases hc : (!d && less a x) with
      | false =>
        have hnew : insF a (R, d) x = (R ++ [x], d) := by unfold insF; simp only [hc]; rfl
        have u1 : vcells (Value.slice p x.length x.length) = [Value.slice p x.length x.length] := rfl
        have u3 : ([Value.slice p x.length x.length] : List Value).all one = true := rfl
        have u4 : Go.AM.splice [Value.slice none 0 0] 0 [Value.slice p x.length x.length] = [Value.slice p x.length x.length] := rfl
        have u5 : ([Value.slice p x.length x.length] : List Value).take 1 = [Value.slice p x.length x.length] := rfl
        have kA := Kp.new n2 H2 (.cells [.slice p x.length x.length] 26 true)
        have bA := hset_at H2 n2 (.cells [.slice p x.length x.length] 26 true)
        have yA := (kA.keep y hyl).trans hy
        have hRA := hR.kp hw2 kA
        have hxA := c2.kp hw2 kA
        generalize hA : hset H2 n2 (.cells [.slice p x.length x.length] 26 true) = HA at *
        have hRA1 := hRA.dead yA
        have hxA1 := hxA.dead yA
        have kA' := (kp.trans kA).set (x := y) .dead hyn (by omega)
        generalize hA1 : hset HA y .dead = HA1 at *
        have kB := Kp.new (n2 + 1) HA1 (.cells (ds ++ [.slice p x.length x.length]) 26 true)
        have bB := hset_at HA1 (n2 + 1) (.cells (ds ++ [.slice p x.length x.length]) 26 true)
        have z2 : [n2].contains y = false := by simp; omega
        have hwA1 := kA'.wf hw
        have hfin := (hRA1.push hxA1).kp hwA1 kB
        cases d with
        | true =>
          repeat (first | refine qqn rfl ?_ | ((first | (refine WK.rgn ?_ ?_; kernel_rfl) | refine AtCall.now ?_); simp (config := {maxSteps:=999999}) only [SS, qx20, forall_const, vun, Int.reduceEq, Int.reduceNeg, Nat.reduceGT, Nat.reduceLT, Nat.reduceLeDiff, Nat.reduceEqDiff, ↓reduceIte, reduceCtorEq, Int.reduceToNat, Int.reduceLE, Int.reduceLT, Nat.reduceAdd, Nat.reduceMul, f0, f1, f5, f6, f7, hlt, hz2, c1, hA, bA, u1, u3, u4, u5, yA, v1, z2, hds, hdl, hA1, hjw, List.drop_zero, Nat.zero_add, Nat.mul_one, ff_33]) | refine qqj rfl ?_ | refine qqk rfl ?_)
          refine ih (ls.length - (j + 1)) (by omega) _ ?_
          exact ⟨j + 1, n2 + 1, R ++ [x], true, _, kA'.trans kB, f0, f1, by rw [List.length_append]; rfl, bB, by have := kp.le; omega, hfin, f6, rfl, hlt, by rw [hsn, hnew], rfl⟩
        | false =>
          have hlx : less a x = false := by simpa using hc
          repeat (first | refine qqn rfl ?_ | ((first | (refine WK.rgn ?_ ?_; kernel_rfl) | refine AtCall.now ?_); simp (config := {maxSteps:=999999}) only [SS, qx20, forall_const, vun, Int.reduceEq, Int.reduceNeg, Nat.reduceGT, Nat.reduceLT, Nat.reduceLeDiff, Nat.reduceEqDiff, ↓reduceIte, reduceCtorEq, Int.reduceToNat, Int.reduceLE, Int.reduceLT, Nat.reduceAdd, Nat.reduceMul, f0, f1, f5, f6, f7, hlt, hz2, c1, Nat.zero_add, ff_33]) | refine qqj rfl ?_ | refine qqk rfl ?_)
          refine AtCall.by (less_gives hra2.ra c2.rs.ra (by unfold maxL; omega)) ?_
          rintro v n3 H3 k3 ⟨rfl, rfl, rfl⟩
          rw [hlx]
          simp (config := {maxSteps:=999999}) only [SS, qx20, forall_const, vun, Int.reduceEq, Int.reduceNeg, Nat.reduceGT, Nat.reduceLT, Nat.reduceLeDiff, Nat.reduceEqDiff, ↓reduceIte, reduceCtorEq, Int.reduceToNat, Int.reduceLE, Int.reduceLT, Nat.reduceAdd, Nat.reduceMul, ff_33]
          repeat (first | refine qqn rfl ?_ | ((first | (refine WK.rgn ?_ ?_; kernel_rfl) | refine AtCall.now ?_); simp (config := {maxSteps:=999999}) only [SS, qx20, forall_const, vun, Int.reduceEq, Int.reduceNeg, Nat.reduceGT, Nat.reduceLT, Nat.reduceLeDiff, Nat.reduceEqDiff, ↓reduceIte, reduceCtorEq, Int.reduceToNat, Int.reduceLE, Int.reduceLT, Nat.reduceAdd, Nat.reduceMul, f0, f1, f5, f6, f7, hlt, hz2, c1, hA, bA, u1, u3, u4, u5, yA, v1, z2, hds, hdl, hA1, hjw, List.drop_zero, Nat.zero_add, Nat.mul_one, ff_33]) | refine qqj rfl ?_ | refine qqk rfl ?_)
          refine ih (ls.length - (j + 1)) (by omega) _ ?_
          exact ⟨j + 1, n3 + 1, R ++ [x], false, _, kA'.trans kB, f0, f1, by rw [List.length_append]; rfl, bB, by have := kp.le; omega, hfin, f6, rfl, hlt, by rw [hsn, hnew], rfl⟩
      | true =>
        have hd : d = false := by cases d <;> simp_all
        subst hd
        have hlx : less a x = true := by simpa using hc
        have hnew : insF a (R, false) x = (R ++ [a] ++ [x], true) := by unfold insF; simp only [hc]; rfl
        have hxD := c2
        have kA := Kp.new n2 H2 (.cells [] 3 true)
        have bA := hset_at H2 n2 (.cells [] 3 true)
        obtain ⟨rd1, src1, hrd1⟩ := ha2.src2 hw2 kA.keep
        have yA := (kA.keep y hyl).trans hy
        have hRA := hR.kp hw2 kA
        generalize hA : hset H2 n2 (.cells [] 3 true) = HA at *
        have kA1 : Kp n2 H2 (n2 + 1) (hset HA n2 .dead) := kA.set (x := n2) .dead (by omega) (by omega)
        have yA1 := (hset_ne HA n2 .dead (x := y) (by omega)).trans yA
        have hRA1 : LT (hset HA n2 .dead) ds R := hR.kp hw2 kA1
        generalize hA1 : hset HA n2 .dead = HA1 at *
        have hwA1 := kA1.wf hw2
        have kB := Kp.new (n2 + 1) HA1 (.cells (a.map (Value.int .i64)) 3 true)
        have bB := hset_at HA1 (n2 + 1) (.cells (a.map (Value.int .i64)) 3 true)
        have yB := (kB.keep y (by omega)).trans yA1
        have hRB := hRA1.kp hwA1 kB
        have hwB := kB.wf hwA1
        generalize hB : hset HA1 (n2 + 1) (.cells (a.map (Value.int .i64)) 3 true) = HB at *
        have riB : RI HB (some ⟨n2 + 1, 0, none⟩) a := ⟨n2 + 1, 0, _, true, rfl, bB, by simp, fun i w e => by rw [Nat.zero_add, List.getElem?_map, e]; rfl⟩
        have kC := Kp.new (n2 + 1 + 1) HB (.cells [.slice (some ⟨n2 + 1, 0, none⟩) a.length a.length] 26 true)
        have bC := hset_at HB (n2 + 1 + 1) (.cells [.slice (some ⟨n2 + 1, 0, none⟩) a.length a.length] 26 true)
        have yC := (kC.keep y (by omega)).trans yB
        have hRC := hRB.kp hwB kC
        have riC := riB.kp hwB kC
        generalize hC : hset HB (n2 + 1 + 1) (.cells [.slice (some ⟨n2 + 1, 0, none⟩) a.length a.length] 26 true) = HC at *
        have hRC1 := hRC.dead yC
        have riC1 := riC.dead yC
        have kC1 : Kp n1 H1 (n2 + 1 + 1 + 1) (hset HC y .dead) := (((kp.trans kA1).trans kB).trans kC).set (x := y) .dead hyn (by omega)
        generalize hC1 : hset HC y .dead = HC1 at *
        have hwC1 := kC1.wf hw
        have kD := Kp.new (n2 + 1 + 1 + 1) HC1 (.cells (ds ++ [.slice (some ⟨n2 + 1, 0, none⟩) a.length a.length]) 26 true)
        have bD := hset_at HC1 (n2 + 1 + 1 + 1) (.cells (ds ++ [.slice (some ⟨n2 + 1, 0, none⟩) a.length a.length]) 26 true)
        have hRD := (hRC1.push riC1).kp hwC1 kD
        have kD0 := kC1.trans kD
        unfold tsrc at src1
        simp only [tsrc2, Nat.mul_one] at src1
        have w1 : rd1.contains n2 = false := by
          rw [Bool.eq_false_iff]; intro h
          have := hrd1 n2 (by simpa using h)
          omega
        have w2 : [n2 + 1 + 1].contains y = false := by simp; omega
        have w3 : vcells (Value.slice (some ⟨n2 + 1, 0, none⟩) a.length a.length) = [Value.slice (some ⟨n2 + 1, 0, none⟩) a.length a.length] := rfl
        have w4 : ([Value.slice (some ⟨n2 + 1, 0, none⟩) a.length a.length] : List Value).all one = true := rfl
        have w5 : Go.AM.splice [Value.slice none 0 0] 0 [Value.slice (some ⟨n2 + 1, 0, none⟩) a.length a.length] = [Value.slice (some ⟨n2 + 1, 0, none⟩) a.length a.length] := rfl
        have w6 : ([Value.slice (some ⟨n2 + 1, 0, none⟩) a.length a.length] : List Value).take 1 = [Value.slice (some ⟨n2 + 1, 0, none⟩) a.length a.length] := rfl
        have hxD : RI (hset HC1 (n2 + 1 + 1 + 1) (.cells (ds ++ [.slice (some ⟨n2 + 1, 0, none⟩) a.length a.length]) 26 true)) p x := by
          have h1 := ((c2.kp hw2 kA1).kp hwA1 kB).kp hwB kC
          have h2 := h1.dead yC
          rw [hC1] at h2
          exact h2.kp hwC1 kD
        have zD := (kD0.keep z hzn).trans hz
        have hwD := kD0.wf hw
        generalize hD : hset HC1 (n2 + 1 + 1 + 1) (.cells (ds ++ [.slice (some ⟨n2 + 1, 0, none⟩) a.length a.length]) 26 true) = HD at *
        have u1 : vcells (Value.slice p x.length x.length) = [Value.slice p x.length x.length] := rfl
        have u3 : ([Value.slice p x.length x.length] : List Value).all one = true := rfl
        have u4 : Go.AM.splice [Value.slice none 0 0] 0 [Value.slice p x.length x.length] = [Value.slice p x.length x.length] := rfl
        have u5 : ([Value.slice p x.length x.length] : List Value).take 1 = [Value.slice p x.length x.length] := rfl
        have kE := Kp.new (n2 + 1 + 1 + 1 + 1) HD (.cells [.slice p x.length x.length] 26 true)
        have bE := hset_at HD (n2 + 1 + 1 + 1 + 1) (.cells [.slice p x.length x.length] 26 true)
        have dE := (kE.keep (n2 + 1 + 1 + 1) (by omega)).trans bD
        have hRE := hRD.kp hwD kE
        have hxE := hxD.kp hwD kE
        generalize hE : hset HD (n2 + 1 + 1 + 1 + 1) (.cells [.slice p x.length x.length] 26 true) = HE at *
        have hRE1 := hRE.dead dE
        have hxE1 := hxE.dead dE
        have kE1 : Kp n1 H1 (n2 + 1 + 1 + 1 + 1 + 1) (hset HE (n2 + 1 + 1 + 1) .dead) := (kD0.trans kE).set (x := n2 + 1 + 1 + 1) .dead (by have := kp.le; omega) (by omega)
        generalize hE1 : hset HE (n2 + 1 + 1 + 1) .dead = HE1 at *
        have hwE1 := kE1.wf hw
        have kF := Kp.new (n2 + 1 + 1 + 1 + 1 + 1) HE1 (.cells (ds ++ [.slice (some ⟨n2 + 1, 0, none⟩) a.length a.length] ++ [.slice p x.length x.length]) 26 true)
        have bF := hset_at HE1 (n2 + 1 + 1 + 1 + 1 + 1) (.cells (ds ++ [.slice (some ⟨n2 + 1, 0, none⟩) a.length a.length] ++ [.slice p x.length x.length]) 26 true)
        have hfin := (hRE1.push hxE1).kp hwE1 kF
        have y2 : [n2 + 1 + 1 + 1 + 1].contains (n2 + 1 + 1 + 1) = false := by simp
        have y3 : (ds ++ [Value.slice (some ⟨n2 + 1, 0, none⟩) a.length a.length]).take (R.length + 1) = ds ++ [Value.slice (some ⟨n2 + 1, 0, none⟩) a.length a.length] := List.take_of_length_le (by simp [hR.1])
        have y4 : R.length + 1 ≤ (ds ++ [Value.slice (some ⟨n2 + 1, 0, none⟩) a.length a.length]).length := by simp [hR.1]
        repeat (first | refine qqn rfl ?_ | ((first | (refine WK.rgn ?_ ?_; kernel_rfl) | refine AtCall.now ?_); simp (config := {maxSteps:=999999}) only [SS, qx20, forall_const, vun, Int.reduceEq, Int.reduceNeg, Nat.reduceGT, Nat.reduceLT, Nat.reduceLeDiff, Nat.reduceEqDiff, ↓reduceIte, reduceCtorEq, Int.reduceToNat, Int.reduceLE, Int.reduceLT, Nat.reduceAdd, Nat.reduceMul, f0, f1, f5, f6, f7, hlt, hz2, c1, Nat.zero_add, ff_33]) | refine qqj rfl ?_ | refine qqk rfl ?_)
        refine AtCall.by (less_gives hra2.ra c2.rs.ra (by unfold maxL; omega)) ?_
        rintro v n3 H3 k3 ⟨rfl, rfl, rfl⟩
        rw [hlx]
        simp (config := {maxSteps:=999999}) only [SS, qx20, forall_const, vun, Int.reduceEq, Int.reduceNeg, Nat.reduceGT, Nat.reduceLT, Nat.reduceLeDiff, Nat.reduceEqDiff, ↓reduceIte, reduceCtorEq, Int.reduceToNat, Int.reduceLE, Int.reduceLT, Nat.reduceAdd, Nat.reduceMul, ff_33]
        repeat (first | refine qqn rfl ?_ | ((first | (refine WK.rgn ?_ ?_; kernel_rfl) | refine AtCall.now ?_); simp (config := {maxSteps:=999999}) only [SS, qx20, forall_const, vun, Int.reduceEq, Int.reduceNeg, Nat.reduceGT, Nat.reduceLT, Nat.reduceLeDiff, Nat.reduceEqDiff, ↓reduceIte, reduceCtorEq, Int.reduceToNat, Int.reduceLE, Int.reduceLT, Nat.reduceAdd, Nat.reduceMul, f0, f1, f5, f6, f7, hlt, zD, c1, hA, bA, src1, w1, v0, hA1, hB, bB, w3, w4, w5, w6, hC, bC, yC, v1, w2, hds, hdl, hC1, List.drop_zero, List.nil_append, List.append_nil, List.take_nil, List.drop_nil, Nat.zero_add, Nat.add_zero, Nat.mul_one, List.length_nil, hD, bD, u1, u3, u4, u5, hE, bE, dE, v1', y2, y3, y4, hE1, hjw, ff_33]) | refine qqj rfl ?_ | refine qqk rfl ?_)
        refine ih (ls.length - (j + 1)) (by omega) _ ?_
        exact ⟨j + 1, n3 + 1 + 1 + 1 + 1 + 1, R ++ [a] ++ [x], true, _, kE1.trans kF, f0, f1, by simp only [List.length_append, List.length_singleton]; rfl, bF, by have := kp.le; omega, hfin, rfl, rfl, hlt, by rw [hsn, hnew], rfl⟩
    · have hje : j = ls.length := by omega
      have hie := insF_eq a ls []
      rw [hje, List.take_length] at hRd
      rw [← hRd, List.nil_append] at hie
      simp only at hie
      cases d with
      | true =>
        rw [if_pos rfl] at hie
        repeat (first | refine qqn rfl ?_ | ((first | (refine WK.rgn ?_ ?_; kernel_rfl) | refine AtCall.now ?_); simp (config := {maxSteps:=999999}) only [SS, qx20, forall_const, vun, Int.reduceEq, Int.reduceNeg, Nat.reduceGT, Nat.reduceLT, Nat.reduceLeDiff, Nat.reduceEqDiff, ↓reduceIte, reduceCtorEq, Int.reduceToNat, Int.reduceLE, Int.reduceLT, Nat.reduceAdd, Nat.reduceMul, f0, f1, f5, f6, f7, hlt, ff_33]) | refine qqj rfl ?_ | refine qqk rfl ?_)
        (first | refine WK.retNil ⟨Or.inr rfl, _, rfl, ?_, ?_⟩ | refine WK.skipNil ⟨Or.inl rfl, _, rfl, ?_, ?_⟩)
        · exact kp.keep
        · simp only [packed, fset_apply, Nat.reduceEqDiff, ↓reduceIte, List.getD_cons_zero, List.getD_cons_succ, f5, ff_33]
          rw [hadd, ← hie]
          exact ⟨y, ds, rfl, .inr hyn, hyl, hy, hR⟩
      | false =>
        rw [if_neg (by simp)] at hie
        have v1 : R.length + 1 ≤ bigN := by unfold bigN; omega
        have v0 : a.length ≤ bigN := by unfold bigN; omega
        have hds : ds.take R.length = ds := List.take_of_length_le (by rw [hR.1]; exact Nat.le_refl _)
        have hdl : R.length ≤ ds.length := by rw [hR.1]; exact Nat.le_refl _
        have kA := Kp.new n2 H2 (.cells [] 3 true)
        have bA := hset_at H2 n2 (.cells [] 3 true)
        obtain ⟨rd1, src1, hrd1⟩ := ha2.src2 hw2 kA.keep
        have yA := (kA.keep y hyl).trans hy
        have hRA := hR.kp hw2 kA
        generalize hA : hset H2 n2 (.cells [] 3 true) = HA at *
        have kA1 : Kp n2 H2 (n2 + 1) (hset HA n2 .dead) := kA.set (x := n2) .dead (by omega) (by omega)
        have yA1 := (hset_ne HA n2 .dead (x := y) (by omega)).trans yA
        have hRA1 : LT (hset HA n2 .dead) ds R := hR.kp hw2 kA1
        generalize hA1 : hset HA n2 .dead = HA1 at *
        have hwA1 := kA1.wf hw2
        have kB := Kp.new (n2 + 1) HA1 (.cells (a.map (Value.int .i64)) 3 true)
        have bB := hset_at HA1 (n2 + 1) (.cells (a.map (Value.int .i64)) 3 true)
        have yB := (kB.keep y (by omega)).trans yA1
        have hRB := hRA1.kp hwA1 kB
        have hwB := kB.wf hwA1
        generalize hB : hset HA1 (n2 + 1) (.cells (a.map (Value.int .i64)) 3 true) = HB at *
        have riB : RI HB (some ⟨n2 + 1, 0, none⟩) a := ⟨n2 + 1, 0, _, true, rfl, bB, by simp, fun i w e => by rw [Nat.zero_add, List.getElem?_map, e]; rfl⟩
        have kC := Kp.new (n2 + 1 + 1) HB (.cells [.slice (some ⟨n2 + 1, 0, none⟩) a.length a.length] 26 true)
        have bC := hset_at HB (n2 + 1 + 1) (.cells [.slice (some ⟨n2 + 1, 0, none⟩) a.length a.length] 26 true)
        have yC := (kC.keep y (by omega)).trans yB
        have hRC := hRB.kp hwB kC
        have riC := riB.kp hwB kC
        generalize hC : hset HB (n2 + 1 + 1) (.cells [.slice (some ⟨n2 + 1, 0, none⟩) a.length a.length] 26 true) = HC at *
        have hRC1 := hRC.dead yC
        have riC1 := riC.dead yC
        have kC1 : Kp n1 H1 (n2 + 1 + 1 + 1) (hset HC y .dead) := (((kp.trans kA1).trans kB).trans kC).set (x := y) .dead hyn (by omega)
        generalize hC1 : hset HC y .dead = HC1 at *
        have hwC1 := kC1.wf hw
        have kD := Kp.new (n2 + 1 + 1 + 1) HC1 (.cells (ds ++ [.slice (some ⟨n2 + 1, 0, none⟩) a.length a.length]) 26 true)
        have bD := hset_at HC1 (n2 + 1 + 1 + 1) (.cells (ds ++ [.slice (some ⟨n2 + 1, 0, none⟩) a.length a.length]) 26 true)
        have hRD := (hRC1.push riC1).kp hwC1 kD
        have kD0 := kC1.trans kD
        unfold tsrc at src1
        simp only [tsrc2, Nat.mul_one] at src1
        have w1 : rd1.contains n2 = false := by
          rw [Bool.eq_false_iff]; intro h
          have := hrd1 n2 (by simpa using h)
          omega
        have w2 : [n2 + 1 + 1].contains y = false := by simp; omega
        have w3 : vcells (Value.slice (some ⟨n2 + 1, 0, none⟩) a.length a.length) = [Value.slice (some ⟨n2 + 1, 0, none⟩) a.length a.length] := rfl
        have w4 : ([Value.slice (some ⟨n2 + 1, 0, none⟩) a.length a.length] : List Value).all one = true := rfl
        have w5 : Go.AM.splice [Value.slice none 0 0] 0 [Value.slice (some ⟨n2 + 1, 0, none⟩) a.length a.length] = [Value.slice (some ⟨n2 + 1, 0, none⟩) a.length a.length] := rfl
        have w6 : ([Value.slice (some ⟨n2 + 1, 0, none⟩) a.length a.length] : List Value).take 1 = [Value.slice (some ⟨n2 + 1, 0, none⟩) a.length a.length] := rfl
        repeat (first | refine qqn rfl ?_ | ((first | (refine WK.rgn ?_ ?_; kernel_rfl) | refine AtCall.now ?_); simp (config := {maxSteps:=999999}) only [SS, qx20, forall_const, vun, Int.reduceEq, Int.reduceNeg, Nat.reduceGT, Nat.reduceLT, Nat.reduceLeDiff, Nat.reduceEqDiff, ↓reduceIte, reduceCtorEq, Int.reduceToNat, Int.reduceLE, Int.reduceLT, Nat.reduceAdd, Nat.reduceMul, f0, f1, f5, f6, f7, hlt, hA, bA, src1, w1, v0, hA1, hB, bB, w3, w4, w5, w6, hC, bC, yC, v1, w2, hds, hdl, hC1, List.drop_zero, List.nil_append, List.append_nil, List.take_nil, List.drop_nil, Nat.zero_add, Nat.add_zero, Nat.mul_one, List.length_nil, ff_33]) | refine qqj rfl ?_ | refine qqk rfl ?_)
        (first | refine WK.retNil ⟨Or.inr rfl, _, rfl, ?_, ?_⟩ | refine WK.skipNil ⟨Or.inl rfl, _, rfl, ?_, ?_⟩)
        · exact kD0.keep
        · simp only [packed, fset_apply, Nat.reduceEqDiff, ↓reduceIte, List.getD_cons_zero, List.getD_cons_succ, ff_33]
          rw [hadd, ← hie]
          exact ⟨n2 + 1 + 1 + 1, _, by simp only [List.length_append, List.length_singleton], .inr (by have := kp.le; omega), by omega, bD, hRD⟩
end Go.Proofs.Ytpdlmpbhohinpaa
