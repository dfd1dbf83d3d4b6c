/- A part of a proof. Its conditions: none. -/
import Derived.Test.YtihjaobjhmmboaaGreatDoorAmULfPrice
import Derived.Test.YtihjaobjhmmboaaGreatDoorAmC
import Derived.Test.YtihjaobjhmmboaaGreatDoorAmULfNullable
import Derived.Test.YtihjaobjhmmboaaGreatDoorAmD
set_option linter.all false
namespace Go.Proofs.YtihjaobjhmmboaaGreatDoor
open Go.AM
set_option maxRecDepth 100000
def bF (best : List Int) (v : Nat) : Int := best.getD v 0
theorem cF_set {l : List Nat} {i m : Nat} (hi : i < l.length) (v : Nat) : cF (l.set i m) v = if v = i then m else cF l v := by
 unfold cF
 rw [List.getD_eq_getElem?_getD, List.getElem?_set]
 by_cases e : v = i
 ·subst e; simp [hi]
 ·rw [if_neg (fun h => e h.symm), if_neg e, List.getD_eq_getElem?_getD]
theorem bF_set {l : List Int} {i : Nat} {m : Int} (hi : i < l.length) (v : Nat) : bF (l.set i m) v = if v = i then m else bF l v := by
 unfold bF
 rw [List.getD_eq_getElem?_getD, List.getElem?_set]
 by_cases e : v = i
 ·subst e; simp [hi]
 ·rw [if_neg (fun h => e h.symm), if_neg e, List.getD_eq_getElem?_getD]
theorem dF_set {l : List Bool} {i : Nat} {m : Bool} (hi : i < l.length) (v : Nat) : dF (l.set i m) v = if v = i then m else dF l v := by
 unfold dF
 rw [List.getD_eq_getElem?_getD, List.getElem?_set]
 by_cases e : v = i
 ·subst e; simp [hi]
 ·rw [if_neg (fun h => e h.symm), if_neg e, List.getD_eq_getElem?_getD]
theorem rep_nat (l : Nat) : rep l [Value.int .i64 (Int.ofNat 0)] = (List.replicate l 0).map natC := by
 induction l with
 | zero => rfl
 | succ l ih => rw [List.replicate_succ, List.map_cons, ← ih]; rfl
theorem rep_int (l : Nat) : rep l [Value.int .i64 (Int.ofNat 0)] = (List.replicate l (0 : Int)).map (Value.int .i64) := by
 induction l with
 | zero => rfl
 | succ l ih => rw [List.replicate_succ, List.map_cons, ← ih]; rfl
structure CSt (n : Nat) (H : Heap) (pt pv pr : Option Addr) (g : Gram) (xd n' : Nat) (H' : Heap) (cl : List Nat) (bl : List Int) (dl : List Bool) : Prop where
 kp : Kp n H n' H'
 box : H' n = .cells (gcells pt pv pr g) 25 true
 hc : H' (n + 1) = .cells (cl.map natC) 3 true
 hb : H' (n + 2) = .cells (bl.map (Value.int .i64)) 3 true
 hd : H' xd = .cells (dl.map .bool) 4 true
 lc : cl.length = g.vars.length
 lb : bl.length = g.vars.length
 ld : dl.length = g.vars.length
theorem CSt.keep {n : Nat} {H : Heap} {pt pv pr : Option Addr} {g : Gram} {xd n' n2 : Nat} {H' H2 : Heap} {cl : List Nat} {bl : List Int} {dl : List Bool} (h : CSt n H pt pv pr g xd n' H' cl bl dl) (hw : WF n H) (k : Kp n' H' n2 H2) : CSt n H pt pv pr g xd n2 H2 cl bl dl := by
 have hw' := h.kp.wf hw
 exact ⟨h.kp.trans k, (k.keep _ (live_lt hw' (live_of h.box))).trans h.box, (k.keep _ (live_lt hw' (live_of h.hc))).trans h.hc, (k.keep _ (live_lt hw' (live_of h.hb))).trans h.hb, (k.keep _ (live_lt hw' (live_of h.hd))).trans h.hd, h.lc, h.lb, h.ld⟩
theorem CSt.cost {n : Nat} {H : Heap} {pt pv pr : Option Addr} {g : Gram} {n' : Nat} {H' : Heap} {cl : List Nat} {bl : List Int} {dl : List Bool} (h : CSt n H pt pv pr g (n + 3) n' H' cl bl dl) (hw : WF n H) {i m : Nat} :
  CSt n H pt pv pr g (n + 3) n' (hset H' (n + 1) (.cells ((cl.set i m).map natC) 3 true)) (cl.set i m) bl dl := by
 have hw' := h.kp.wf hw
 exact ⟨h.kp.set _ (by omega) (live_lt hw' (live_of h.hc)), (hset_ne _ _ _ (by omega)).trans h.box, hset_at _ _ _, (hset_ne _ _ _ (by omega)).trans h.hb, (hset_ne _ _ _ (by omega)).trans h.hd, by rw [List.length_set]; exact h.lc, h.lb, h.ld⟩
theorem CSt.best {n : Nat} {H : Heap} {pt pv pr : Option Addr} {g : Gram} {n' : Nat} {H' : Heap} {cl : List Nat} {bl : List Int} {dl : List Bool} (h : CSt n H pt pv pr g (n + 3) n' H' cl bl dl) (hw : WF n H) {i : Nat} {m : Int} :
  CSt n H pt pv pr g (n + 3) n' (hset H' (n + 2) (.cells ((bl.set i m).map (Value.int .i64)) 3 true)) cl (bl.set i m) dl := by
 have hw' := h.kp.wf hw
 exact ⟨h.kp.set _ (by omega) (live_lt hw' (live_of h.hb)), (hset_ne _ _ _ (by omega)).trans h.box, (hset_ne _ _ _ (by omega)).trans h.hc, hset_at _ _ _, (hset_ne _ _ _ (by omega)).trans h.hd, h.lc, by rw [List.length_set]; exact h.lb, h.ld⟩
theorem CSt.done {n : Nat} {H : Heap} {pt pv pr : Option Addr} {g : Gram} {n' : Nat} {H' : Heap} {cl : List Nat} {bl : List Int} {dl : List Bool} (h : CSt n H pt pv pr g (n + 3) n' H' cl bl dl) (hw : WF n H) {i : Nat} {m : Bool} :
  CSt n H pt pv pr g (n + 3) n' (hset H' (n + 3) (.cells ((dl.set i m).map .bool) 4 true)) cl bl (dl.set i m) := by
 have hw' := h.kp.wf hw
 exact ⟨h.kp.set _ (by omega) (live_lt hw' (live_of h.hd)), (hset_ne _ _ _ (by omega)).trans h.box, (hset_ne _ _ _ (by omega)).trans h.hc, (hset_ne _ _ _ (by omega)).trans h.hb, hset_at _ _ _, h.lc, h.lb, by rw [List.length_set]; exact h.ld⟩
def CFr (n : Nat) (g : Gram) (f : Fr) : Prop := f 1 = .pointer (some ⟨n, 0, none⟩) ∧ f 2 = .slice (some ⟨n + 1, 0, none⟩) g.vars.length g.vars.length ∧ f 3 = .slice (some ⟨n + 2, 0, none⟩) g.vars.length g.vars.length ∧ f 5 = .slice (some ⟨n + 3, 0, none⟩) g.vars.length g.vars.length
def relax1 (dl : List Bool) (i : Nat) (r : GRule) (s : List Nat × List Int) : List Nat × List Int :=
 match priceA (cF s.1) (dF dl) 0 r.right with
 | none => s
 | some m => if m < farN ∧ dF dl r.left.toNat = false ∧ m < cF s.1 r.left.toNat then (s.1.set r.left.toNat m, s.2.set r.left.toNat (i : Int)) else s
def relaxFrom (dl : List Bool) : Nat → List GRule → List Nat × List Int → List Nat × List Int
 | _, [], s => s
 | i, r :: rs, s => relaxFrom dl (i + 1) rs (relax1 dl i r s)
def pickFrom (cl : List Nat) (dl : List Bool) : Nat → Nat → Option Nat → Option Nat
 | _, 0, a => a
 | v, n + 1, a => pickFrom cl dl (v + 1) n (if dF dl v = false ∧ cF cl v < farN ∧ (match a with | none => true | some a => decide (cF cl v < cF cl a)) = true then some v else a)
def roundsC (g : Gram) : Nat → List Nat × List Int × List Bool → List Nat × List Int × List Bool
 | 0, s => s
 | n + 1, s =>
  let r := relaxFrom s.2.2 0 g.rules (s.1, s.2.1)
  match pickFrom r.1 s.2.2 0 g.vars.length none with
  | none => (r.1, r.2, s.2.2)
  | some a => roundsC g n (r.1, r.2, s.2.2.set a true)
def costEnd (g : Gram) : List Nat × List Int × List Bool := roundsC g g.vars.length (List.replicate g.vars.length farN, List.replicate g.vars.length (-1), List.replicate g.vars.length false)
def costB (g : Gram) (u : Nat) : Int := if u < g.vars.length ∧ dF (costEnd g).2.2 u = false then -1 else bF (costEnd g).2.1 u
set_option maxHeartbeats 16000000 in
theorem cost_gives {v : Value} {g : Gram} {n : Nat} {H : Heap} (hw : WF n H) (hg : RG H v g) (wg : WG g) (ok : RightOK g) :
    Gives Tryz.prog 11 [v] n H fun v _ H' => ∃ (cl : List Nat) (bl : List Int), v = .tuple #[.slice (some ⟨n + 1, 0, none⟩) g.vars.length g.vars.length, .slice (some ⟨n + 2, 0, none⟩) g.vars.length g.vars.length] ∧ H' (n + 1) = .cells (cl.map natC) 3 true ∧ H' (n + 2) = .cells (bl.map (Value.int .i64)) 3 true ∧ cl.length = g.vars.length ∧ bl.length = g.vars.length ∧ CostOK g (cF cl) (bF bl) ∧ bF bl = costB g := by
  have hg0 := hg
  obtain ⟨pt, pv, pr, rfl, ht, hv, hr⟩ := hg
  refine Gives.of orders ok11 (Nat.le_of_ble_eq_true rfl) ?_
  have hk := Kp.new n H (.cells (gcells pt pv pr g) 25 true)
  have hb := hset_at H n (.cells (gcells pt pv pr g) 25 true)
  have hi := ok.inG
  have hv64 := ok.vars
  have hv1 := ok.vars1
  have hrl := ok.rules
  have hfar : farN = 1073741824 := rfl
  have hvl : (g.vars.length : Int) ≤ bigN := by unfold bigN; omega
  repeat refine qqn rfl ?_
  (refine qqr ?_; simp only [SS, qx8, vun, simprocAttr, box_cells, box_one, ff_11])
  generalize hset H n (.cells (gcells pt pv pr g) 25 true) = H1 at *
  repeat refine qqn rfl ?_
  have hb' : ∀ o, hset H1 (n + 1) o n = _ := fun o => (hset_ne _ _ _ (by omega)).trans hb
  (refine qqr ?_; simp only [SS, qx8, vun, simprocAttr, hb, hb', gc_0, gc_1, gc_2, hvl, ff_11])
  have e1 : rep g.vars.length [Value.int .i64 (Int.ofNat 0)] = (List.replicate g.vars.length 0).map natC := rep_nat _
  have st0 : CSt n H pt pv pr g (n + 3) (n + 2 + 1) (hset (hset H1 (n + 1) (.cells (rep g.vars.length [Value.int .i64 (Int.ofNat 0)]) 3 true)) (n + 1 + 1) (.cells (rep g.vars.length [Value.int .i64 (Int.ofNat 0)]) 3 true)) (List.replicate g.vars.length 0) (List.replicate g.vars.length 0) [] ∨ True := .inr trivial
  clear st0
  have k1 := (hk.trans (Kp.new (n + 1) H1 (.cells (rep g.vars.length [Value.int .i64 (Int.ofNat 0)]) 3 true))).trans (Kp.new (n + 1 + 1) _ (.cells (rep g.vars.length [Value.int .i64 (Int.ofNat 0)]) 3 true))
  have c0 : hset (hset H1 (n + 1) (.cells (rep g.vars.length [Value.int .i64 (Int.ofNat 0)]) 3 true)) (n + 1 + 1) (.cells (rep g.vars.length [Value.int .i64 (Int.ofNat 0)]) 3 true) n = _ := (hset_ne _ _ _ (by omega)).trans ((hset_ne _ _ _ (by omega)).trans hb)
  have c1 : hset (hset H1 (n + 1) (.cells (rep g.vars.length [Value.int .i64 (Int.ofNat 0)]) 3 true)) (n + 1 + 1) (.cells (rep g.vars.length [Value.int .i64 (Int.ofNat 0)]) 3 true) (n + 1) = _ := (hset_ne _ _ _ (by omega)).trans (hset_at _ _ _)
  have c2 : hset (hset H1 (n + 1) (.cells (rep g.vars.length [Value.int .i64 (Int.ofNat 0)]) 3 true)) (n + 1 + 1) (.cells (rep g.vars.length [Value.int .i64 (Int.ofNat 0)]) 3 true) (n + 2) = _ := hset_at _ _ _
  generalize hset (hset H1 (n + 1) (.cells (rep g.vars.length [Value.int .i64 (Int.ofNat 0)]) 3 true)) (n + 1 + 1) (.cells (rep g.vars.length [Value.int .i64 (Int.ofNat 0)]) 3 true) = H2 at *
  rw [rep_nat] at c1
  rw [rep_int] at c2
  repeat (first | refine qqm rfl ?_ | ((first | refine qqr ?_ | refine qqt ?_); simp only [SS, qx8, vun, simprocAttr, ff_11]))
  refine WK.loop (fun k s => ∃ (i : Nat) (cl : List Nat) (bl : List Int), s.n = n + 1 + 1 + 1 ∧ Kp n H s.n s.H ∧ s.H n = .cells (gcells pt pv pr g) 25 true ∧ s.H (n + 1) = .cells (cl.map natC) 3 true ∧ s.H (n + 2) = .cells (bl.map (Value.int .i64)) 3 true ∧ cl.length = g.vars.length ∧ bl.length = g.vars.length ∧ s.f 1 = .pointer (some ⟨n, 0, none⟩) ∧
      s.f 2 = .slice (some ⟨n + 1, 0, none⟩) g.vars.length g.vars.length ∧ s.f 3 = .slice (some ⟨n + 2, 0, none⟩) g.vars.length g.vars.length ∧ s.f 22 = .int .i64 g.vars.length ∧ s.f 23 = .int .i64 (i : Nat) ∧ i ≤ g.vars.length ∧ (∀ v, v < i → cF cl v = farN) ∧ (∀ v, v < i → bF bl v = -1) ∧ k = g.vars.length - i) g.vars.length ?_ ?_
  · exact ⟨0, _, _, rfl, k1, c0, c1, c2, by simp, by simp, rfl, rfl, rfl, rfl, rfl, Nat.zero_le _, (fun v h => by omega), (fun v h => by omega), rfl⟩
  clear c0 c1 c2 k1 e1 hb'
  rintro kk ⟨f, n3, H3⟩ ⟨i, cl, bl, rfl, kp, h0, h1, h2, lc, lb, f1, f2, f3, f22, f23, hiv, hfarv, hminv, rfl⟩ ih
  simp only at f1 f2 f3 f22 f23 ih kp h0 h1 h2
  by_cases hil : i < g.vars.length
  · have hiw : IntKind.i64.wrap ((i : Int) + 1) = ((i + 1 : Nat) : Int) := by rw [wrap_in (by omega) (by omega)]; rfl
    have s1 : (cl.map natC).set i (.int .i64 1073741824) = (cl.set i farN).map natC := by rw [List.map_set]; rfl
    have s2 : (bl.map (Value.int .i64)).set i (.int .i64 (-1)) = (bl.set i (-1)).map (Value.int .i64) := by rw [List.map_set]
    have l1 : i + 1 ≤ cl.length := by omega
    have l2 : i + 1 ≤ bl.length := by omega
    have h2' : ∀ o, hset H3 (n + 1) o (n + 2) = _ := fun o => (hset_ne _ _ _ (by omega)).trans h2
    repeat (first | refine qqm rfl ?_ | ((first | refine qqr ?_ | refine qqt ?_); simp only [SS, qx8, vun, simprocAttr, f2, f3, f22, f23, hil, h1, h2', s1, s2, l1, l2, List.length_map, ff_11]))
    refine ih (g.vars.length - (i + 1)) (by omega) _ ⟨i + 1, cl.set i farN, bl.set i (-1), rfl, (kp.set _ (by omega) (by omega)).set _ (by omega) (by omega), (hset_ne _ _ _ (by omega)).trans ((hset_ne _ _ _ (by omega)).trans h0), (hset_ne _ _ _ (by omega)).trans (hset_at _ _ _), hset_at _ _ _, by rw [List.length_set]; exact lc, by rw [List.length_set]; exact lb, f1, f2, f3, f22, ?_, hil, fun v h => ?_, fun v h => ?_, rfl⟩
    · simp only [packed, qv, Nat.reduceEqDiff, ↓reduceIte, f23, hiw, ff_11]
    · rw [cF_set (by omega)]
      split
      · rfl
      · exact hfarv v (by omega)
    · rw [bF_set (by omega)]
      split
      · rfl
      · exact hminv v (by omega)
  · have hie : i = g.vars.length := by omega
    have h0' : ∀ o, hset H3 (n + 1 + 1 + 1) o n = _ := fun o => (hset_ne _ _ _ (by omega)).trans h0
    repeat (first | refine qqm rfl ?_ | ((first | refine qqr ?_ | refine qqt ?_); simp only [SS, qx8, vun, simprocAttr, f1, f22, f23, hil, h0, h0', gc_1, hvl, ff_11]))
    rw [rep_map]
    have st : CSt n H pt pv pr g (n + 3) (n + 1 + 1 + 1 + 1) (hset H3 (n + 1 + 1 + 1) (.cells ((List.replicate g.vars.length false).map .bool) 4 true)) cl bl (List.replicate g.vars.length false) :=
      ⟨kp.trans (Kp.new _ _ _), h0' _, (hset_ne _ _ _ (by omega)).trans h1, (hset_ne _ _ _ (by omega)).trans h2, hset_at _ _ _, lc, lb, by simp⟩
    have inv : CInv g (cF cl) (bF bl) (dF (List.replicate g.vars.length false)) [] 0 := CInv.start _ _ _ (fun v hv => hfarv v (by omega)) (fun v hv => by simp [dF, hv])
    generalize hset H3 (n + 1 + 1 + 1) (.cells ((List.replicate g.vars.length false).map .bool) 4 true) = H4 at *
    have hend : costEnd g = roundsC g g.vars.length (cl, bl, List.replicate g.vars.length false) := by
      have h3 : cl = List.replicate g.vars.length farN := by
        apply List.ext_getElem (by simp [lc])
        intro i q1 q2
        have := hfarv i (by omega)
        simpa [cF, q1] using this
      have h4 : bl = List.replicate g.vars.length (-1) := by
        apply List.ext_getElem (by simp [lb])
        intro i q1 q2
        have := hminv i (by omega)
        simpa [bF, q1] using this
      rw [h3, h4]; rfl
    generalize List.replicate g.vars.length false = dl at *
    refine WK.unblock ?_
    refine WK.cut (fun s => ∃ (cl : List Nat) (bl : List Int) (dl : List Bool) (ord : List Nat) (i : Nat), CSt n H pt pv pr g (n + 3) s.n s.H cl bl dl ∧ CInv g (cF cl) (bF bl) (dF dl) ord i ∧ (i = g.rules.length ∧ (∀ v, v < g.vars.length → dF dl v = false → farN ≤ cF cl v) ∨ ord.length = g.vars.length) ∧ costEnd g = (cl, bl, dl) ∧ CFr n g s.f) ?_ ?_
    rotate_left
    · clear st inv ih h0 h1 h2 h0' kp f1 f2 f3 f22 f23 lc lb hfarv hminv hend
      rintro ⟨f, n4, H5⟩ ⟨cl, bl, dl, ord, i, st, inv, hov, hend, ⟨f1, f2, f3, f5⟩⟩
      simp only at st f1 f2 f3 f5
      repeat (first | refine qqm rfl ?_ | ((first | refine qqr ?_ | refine qqt ?_); simp only [SS, qx8, vun, simprocAttr, f2, ff_11]))
      refine WK.loop (fun k s => ∃ (v : Nat) (cl' : List Nat) (bl' : List Int), s.n = n4 ∧ CSt n H pt pv pr g (n + 3) s.n s.H cl' bl' dl ∧ CFr n g s.f ∧ s.f 127 = .int .i64 g.vars.length ∧ s.f 128 = .int .i64 (v : Nat) ∧ v ≤ g.vars.length ∧ (∀ u, cF cl' u = if u < v ∧ dF dl u = false then farN else cF cl u) ∧ (∀ u, bF bl' u = if u < v ∧ dF dl u = false then -1 else bF bl u) ∧ k = g.vars.length - v) g.vars.length ?_ ?_
      · exact ⟨0, cl, bl, rfl, st, ⟨f1, f2, f3, f5⟩, rfl, rfl, Nat.zero_le _, (fun u => by simp), (fun u => by simp), rfl⟩
      clear f1 f2 f3 f5 st
      rintro kk ⟨f, n5, H6⟩ ⟨v, cl', bl', rfl, st, ⟨f1, f2, f3, f5⟩, f127, f128, hvv, hcc, hbb, rfl⟩ ih
      simp only at st f1 f2 f3 f5 f127 f128 ih
      by_cases hvl2 : v < g.vars.length
      · have hvw : IntKind.i64.wrap ((v : Int) + 1) = ((v + 1 : Nat) : Int) := by rw [wrap_in (by omega) (by omega)]; rfl
        have hvd : v < dl.length := by rw [st.ld]; exact hvl2
        have hvc : v < cl'.length := by rw [st.lc]; exact hvl2
        have hvb : v < bl'.length := by rw [st.lb]; exact hvl2
        have hgd : (dl.map Value.bool)[v]? = some (.bool dl[v]) := by rw [List.getElem?_map, List.getElem?_eq_getElem hvd]; rfl
        have hdv : dF dl v = dl[v] := by simp [dF, hvd]
        cases hdb : dl[v]
        · rw [hdb] at hgd hdv
          have s1 : (cl'.map natC).set v (.int .i64 1073741824) = (cl'.set v farN).map natC := by rw [List.map_set]; rfl
          have s2 : (bl'.map (Value.int .i64)).set v (.int .i64 (-1)) = (bl'.set v (-1)).map (Value.int .i64) := by rw [List.map_set]
          have l1 : v + 1 ≤ cl'.length := hvc
          have l2 : v + 1 ≤ bl'.length := hvb
          have h2' : ∀ o, hset H6 (n + 1) o (n + 2) = _ := fun o => (hset_ne _ _ _ (by omega)).trans st.hb
          repeat (first | refine qqm rfl ?_ | ((first | refine qqr ?_ | refine qqt ?_); simp only [SS, qx8, vun, simprocAttr, f2, f3, f5, f127, f128, hvl2, st.hd, st.hc, hgd, h2', s1, s2, l1, l2, List.length_map, ff_11]))
          refine ih (g.vars.length - (v + 1)) (by omega) _ ⟨v + 1, cl'.set v farN, bl'.set v (-1), rfl, (st.cost hw).best hw, ⟨f1, f2, f3, f5⟩, f127, ?_, hvl2, fun u => ?_, fun u => ?_, rfl⟩
          · simp only [packed, qv, Nat.reduceEqDiff, ↓reduceIte, f128, hvw, ff_11]
          · rw [cF_set hvc]
            by_cases e : u = v
            · subst e; rw [if_pos rfl, if_pos ⟨by omega, hdv⟩]
            · rw [if_neg e, hcc u]
              by_cases h : u < v ∧ dF dl u = false
              · rw [if_pos h, if_pos ⟨by omega, h.2⟩]
              · rw [if_neg h, if_neg (fun h' => h ⟨by omega, h'.2⟩)]
          · rw [bF_set hvb]
            by_cases e : u = v
            · subst e; rw [if_pos rfl, if_pos ⟨by omega, hdv⟩]
            · rw [if_neg e, hbb u]
              by_cases h : u < v ∧ dF dl u = false
              · rw [if_pos h, if_pos ⟨by omega, h.2⟩]
              · rw [if_neg h, if_neg (fun h' => h ⟨by omega, h'.2⟩)]
        · rw [hdb] at hgd hdv
          have same : ∀ u, (u < v + 1 ∧ dF dl u = false) ↔ (u < v ∧ dF dl u = false) := fun u => by
            constructor
            · rintro ⟨h1, h2⟩
              refine ⟨?_, h2⟩
              by_cases e : u = v
              · subst e; rw [hdv] at h2; cases h2
              · omega
            · rintro ⟨h1, h2⟩; exact ⟨by omega, h2⟩
          repeat (first | refine qqm rfl ?_ | ((first | refine qqr ?_ | refine qqt ?_); simp only [SS, qx8, vun, simprocAttr, f5, f127, f128, hvl2, st.hd, hgd, ff_11]))
          refine ih (g.vars.length - (v + 1)) (by omega) _ ⟨v + 1, cl', bl', rfl, st, ⟨f1, f2, f3, f5⟩, f127, ?_, hvl2, fun u => ?_, fun u => ?_, rfl⟩
          · simp only [packed, qv, Nat.reduceEqDiff, ↓reduceIte, f128, hvw, ff_11]
          · rw [hcc u]; simp only [same u]
          · rw [hbb u]; simp only [same u]
      · have hve : v = g.vars.length := by omega
        subst hve
        repeat (first | refine qqm rfl ?_ | ((first | refine qqr ?_ | refine qqt ?_); simp only [SS, qx8, vun, simprocAttr, f2, f3, f127, f128, hvl2, ff_11]))
        first | refine qqf ?_ ?_ | refine qqg ?_ ?_
        · exact st.kp.keep
        · simp only [packed, qv, Nat.reduceEqDiff, ↓reduceIte, ff_11]
          refine ⟨cl', bl', trivial, st.hc, st.hb, st.lc, st.lb, inv.over hi hov (fun v hv => ?_) (fun v hv => ?_), ?_⟩
          · rw [hcc v]
            cases hd : dF dl v <;> simp [hv]
          · rw [hbb v]
            cases hd : dF dl v <;> simp [hv]
          · funext u
            rw [hbb u, costB, hend]
    refine WK.block ?_
    refine WK.loop (fun k s => ∃ (q : Nat) (cl : List Nat) (bl : List Int) (dl : List Bool) (ord : List Nat), CSt n H pt pv pr g (n + 3) s.n s.H cl bl dl ∧ CInv g (cF cl) (bF bl) (dF dl) ord 0 ∧ ord.length = q ∧ CFr n g s.f ∧ s.f 39 = .int .i64 g.vars.length ∧ s.f 40 = .int .i64 (q : Nat) ∧ q ≤ g.vars.length ∧ costEnd g = roundsC g (g.vars.length - q) (cl, bl, dl) ∧ k = g.vars.length - q) g.vars.length ?_ ?_
    · exact ⟨0, cl, bl, dl, [], st, inv, rfl, ⟨f1, f2, f3, rfl⟩, rfl, rfl, Nat.zero_le _, hend, rfl⟩
    clear st inv ih h0 h1 h2 h0' kp f1 f2 f3 f22 f23 lc lb hfarv hminv hend
    rintro kk ⟨f, n4, H5⟩ ⟨q, cl, bl, dl, ord, st, inv, hord, ⟨f1, f2, f3, f5⟩, f39, f40, hq, hend, rfl⟩ ih
    simp only at st f1 f2 f3 f5 f39 f40 ih
    by_cases hql : q < g.vars.length
    · have hqw : IntKind.i64.wrap ((q : Int) + 1) = ((q + 1 : Nat) : Int) := by rw [wrap_in (by omega) (by omega)]; rfl
      repeat (first | refine qqm rfl ?_ | ((first | refine qqr ?_ | refine qqt ?_); simp only [SS, qx8, vun, simprocAttr, f1, f39, f40, hql, st.box, gc_2, ff_11]))
      obtain ⟨R, hR⟩ : ∃ R, relaxFrom dl 0 g.rules (cl, bl) = R := ⟨_, rfl⟩
      have hend' : costEnd g = (match pickFrom R.1 dl 0 g.vars.length none with | none => (R.1, R.2, dl) | some a => roundsC g (g.vars.length - (q + 1)) (R.1, R.2, dl.set a true)) := by
        rw [hend, show g.vars.length - q = (g.vars.length - (q + 1)) + 1 by omega, ← hR]; rfl
      clear hend
      refine WK.loop (fun k s => ∃ (i : Nat) (cl : List Nat) (bl : List Int), CSt n H pt pv pr g (n + 3) s.n s.H cl bl dl ∧ CInv g (cF cl) (bF bl) (dF dl) ord i ∧ CFr n g s.f ∧ s.f 6 = .int .i64 (-1) ∧ s.f 39 = .int .i64 g.vars.length ∧ s.f 40 = .int .i64 (q : Nat) ∧ s.f 43 = .slice pr g.rules.length g.rules.length ∧ s.f 44 = .int .i64 g.rules.length ∧ s.f 45 = .int .i64 (i : Nat) ∧ i ≤ g.rules.length ∧ relaxFrom dl i (g.rules.drop i) (cl, bl) = R ∧ k = g.rules.length - i) g.rules.length ?_ ?_
      · exact ⟨0, cl, bl, st, inv, ⟨f1, f2, f3, f5⟩, rfl, f39, f40, rfl, rfl, rfl, Nat.zero_le _, hR, rfl⟩
      clear st inv f1 f2 f3 f5 f39 f40 hR
      rintro kk ⟨f, n5, H6⟩ ⟨i, cl, bl, st, inv, ⟨f1, f2, f3, f5⟩, f6, f39, f40, f43, f44, f45, hir, hR, rfl⟩ ih2
      simp only at st f1 f2 f3 f5 f6 f39 f40 f43 f44 f45 ih2
      have hw5 := st.kp.wf hw
      by_cases hil2 : i < g.rules.length
      · have hiw : IntKind.i64.wrap ((i : Int) + 1) = ((i + 1 : Nat) : Int) := by rw [wrap_in (by omega) (by omega)]; rfl
        have hr5 := hr.mono hw st.kp
        obtain ⟨z, kz, cs, ty, own, p, e0, hz, d0, d1, d2, hp⟩ := hr5.at hil2
        have d3 := take3 d0 d1 d2
        have d4 := len3 d2
        subst e0
        have hm := List.getElem_mem hil2
        obtain ⟨l, hl⟩ : ∃ l : Nat, g.rules[i].left = l := ⟨g.rules[i].left.toNat, by have := (ok.rule i hil2).left0; omega⟩
        have hlv : l < g.vars.length := by have := (ok.rule i hil2).left1; omega
        have hrr := (ok.rule i hil2).len
        repeat (first | refine qqm rfl ?_ | ((first | refine qqr ?_ | refine qqt ?_); simp only [SS, qx8, vun, simprocAttr, f2, f5, f43, f44, f45, hil2, hz, d3, d4, hl, ff_11]))
        have kn := Kp.new n5 H6 (.cells [.int .i64 (l : Nat), .slice p g.rules[i].right.length g.rules[i].right.length, .float .f64 g.rules[i].weight] 44 true)
        have st1 := st.keep hw kn
        have hN := hset_at H6 n5 (.cells [.int .i64 (l : Nat), .slice p g.rules[i].right.length g.rules[i].right.length, .float .f64 g.rules[i].weight] 44 true)
        have hp1 := hp.mono hw5 kn
        have hw6 := kn.wf hw5
        generalize hset H6 n5 (.cells [.int .i64 (l : Nat), .slice p g.rules[i].right.length g.rules[i].right.length, .float .f64 g.rules[i].weight] 44 true) = H7 at *
        have hcap : ∀ k ∈ cl, k ≤ farN := fun k hk => by
          obtain ⟨v, hv, rfl⟩ := List.getElem_of_mem hk
          have := inv.cap v (by rw [← st.lc]; exact hv)
          simpa [cF, hv] using this
        have hpr := price_gives (l := (l : Int)) (wt := g.rules[i].weight) hw6 hp1 st1.hc st1.hd (by omega) (fun s hs => by rw [st.lc]; exact hi.right _ hm s hs) (by rw [st.ld, st.lc]) hcap
        rw [st.lc] at hpr
        refine AtCall.by hpr ?_
        rintro v n6 H8 k6 rfl
        have st2 := st1.keep hw k6
        have hN2 := (k6.keep n5 (by omega)).trans hN
        have hld : l < dl.length := by rw [st.ld]; exact hlv
        have hlc : l < cl.length := by rw [st.lc]; exact hlv
        have hgd : (dl.map Value.bool)[l]? = some (.bool dl[l]) := by rw [List.getElem?_map, List.getElem?_eq_getElem hld]; rfl
        have hgc : (cl.map natC)[l]? = some (.int .i64 (cl[l] : Nat)) := by rw [List.getElem?_map, List.getElem?_eq_getElem hlc]; rfl
        have hdl : dF dl l = dl[l] := by simp [dF, hld]
        have hcl : cF cl l = cl[l] := by simp [cF, hlc]
        have hlt' : g.rules[i].left.toNat = l := by omega
        rw [List.drop_eq_getElem_cons hil2] at hR
        simp only [relaxFrom, relax1, hl, Int.toNat_natCast] at hR
        have skip : relaxFrom dl (i + 1) (g.rules.drop (i + 1)) (cl, bl) = R → (dF dl l = false → allDone (dF dl) g.rules[i].right → sumC (cF cl) g.rules[i].right < farN → cF cl l ≤ sumC (cF cl) g.rules[i].right) → ∀ f' : Fr, CFr n g f' → f' 6 = f 6 → f' 39 = f 39 → f' 40 = f 40 → f' 43 = f 43 → f' 44 = f 44 → f' 45 = .int .i64 (i + 1 : Nat) →
            ∃ (i' : Nat) (cl : List Nat) (bl : List Int), CSt n H pt pv (some ⟨z, kz, none⟩) g (n + 3) n6 H8 cl bl dl ∧ CInv g (cF cl) (bF bl) (dF dl) ord i' ∧ CFr n g f' ∧ f' 6 = .int .i64 (-1) ∧ f' 39 = .int .i64 g.vars.length ∧ f' 40 = .int .i64 (q : Nat) ∧ f' 43 = .slice (some ⟨z, kz, none⟩) g.rules.length g.rules.length ∧ f' 44 = .int .i64 g.rules.length ∧ f' 45 = .int .i64 (i' : Nat) ∧ i' ≤ g.rules.length ∧ relaxFrom dl i' (g.rules.drop i') (cl, bl) = R ∧ g.rules.length - (i + 1) = g.rules.length - i' :=
          fun hq' hn f' hf e6 e39 e40 e43 e44 e45 => ⟨i + 1, cl, bl, st2, inv.skip hil2 (by rw [hlt']; exact hn), hf, e6.trans f6, e39.trans f39, e40.trans f40, e43.trans f43, e44.trans f44, e45, hil2, hq', rfl⟩
        unfold priceV
        cases hpa : priceA (cF cl) (dF dl) 0 g.rules[i].right with
        | none =>
          simp only [hpa] at hR
          simp only [SS, qx8, vun, simprocAttr, ff_11]
          repeat (first | refine qqm rfl ?_ | ((first | refine qqr ?_ | refine qqt ?_); simp only [SS, qx8, vun, simprocAttr, f45, ff_11]))
          refine ih2 (g.rules.length - (i + 1)) (by omega) _ (skip hR (fun h1 h2 h3 => ?_) _ ⟨f1, f2, f3, f5⟩ rfl rfl rfl rfl rfl ?_)
          · rw [priceA_of _ 0 h2 (by omega)] at hpa; cases hpa
          · simp only [packed, qv, Nat.reduceEqDiff, ↓reduceIte, f45, hiw, ff_11]
        | some m =>
          obtain ⟨ha, hs⟩ := priceA_some _ _ _ hpa
          simp only [hpa] at hR
          by_cases hmf : m < farN
          · have hm' := hs hmf
            rw [Nat.zero_add] at hm'
            cases hdb : dl[l]
            · rw [hdb] at hgd hdl
              by_cases hlt : (m : Int) < cl[l]
              · have hlt2 : m < cl[l] := by omega
                have s1 : (cl.map natC).set l (.int .i64 (m : Nat)) = (cl.set l m).map natC := by rw [List.map_set]; rfl
                have s2 : (bl.map (Value.int .i64)).set l (.int .i64 (i : Nat)) = (bl.set l (i : Int)).map (Value.int .i64) := by rw [List.map_set]
                have l1 : l + 1 ≤ cl.length := by omega
                have l2 : l + 1 ≤ bl.length := by rw [st.lb]; omega
                have h2' : ∀ o, hset H8 (n + 1) o (n + 2) = _ := fun o => (hset_ne _ _ _ (by omega)).trans st2.hb
                rw [if_pos ⟨hmf, hdl, by rw [hcl]; exact hlt2⟩] at hR
                simp only [SS, qx8, vun, simprocAttr, hmf, ff_11]
                repeat refine qqn rfl ?_
                (refine qqr ?_; simp only [SS, qx8, vun, simprocAttr, f2, f3, f5, f45, hN2, hlv, st2.hc, st2.hd, hgd, hgc, hlt, hlt2, ff_11])
                repeat refine qqn rfl ?_
                refine qqm rfl ?_
                (refine WK.rgl [(5, 9)] (by kernel_rfl) ?_; simp only [wl, wl1_false, wl1_true, wl2_none, wl2_some, wl3_some, wl3_none, SS, forall_const, wx, tguard, acallee, top, tval, fput, tor, vsh, vbin, vun, tload, tload2, tload3, tstore, tstore2, tstore3, Go.AM.splice, one, tidx, tidx2, tidx3, tfa, tfa2, tlen2, tlen3, tpick, textr, tbox, talloc, still, still1, flat1, tmake, simprocAttr, f2, f3, f5, hN2, hlv, st2.hc, h2', s1, s2, l1, l2, List.length_map, ff_11])
                refine ⟨light_cons rfl rfl (lapart_rw (by simp; have := st.kp.le; have := live_lt hw5 (live_of st.hc); omega)) light_nil, ?_⟩
                repeat (first | refine qqm rfl ?_ | ((first | refine qqr ?_ | refine qqt ?_); simp only [SS, qx8, vun, simprocAttr, f45, ff_11]))
                refine ih2 (g.rules.length - (i + 1)) (by omega) _ ⟨i + 1, cl.set l m, bl.set l (i : Int), (st2.cost hw).best hw, inv.take hi hil2 hl hdl ha hm' hmf (by rw [hcl]; exact hlt2) (cF_set hlc) (bF_set (by rw [st.lb]; omega)), ⟨f1, f2, f3, f5⟩, f6, f39, f40, f43, f44, ?_, hil2, hR, rfl⟩
                simp only [packed, qv, Nat.reduceEqDiff, ↓reduceIte, f45, hiw, ff_11]
              · have hlt2 : ¬ m < cl[l] := by omega
                rw [if_neg (fun h => hlt2 (by rw [← hcl]; exact h.2.2))] at hR
                simp only [SS, qx8, vun, simprocAttr, hmf, ff_11]
                repeat (first | refine qqm rfl ?_ | ((first | refine qqr ?_ | refine qqt ?_); simp only [SS, qx8, vun, simprocAttr, f2, f5, f45, hN2, hlv, st2.hc, st2.hd, hgd, hgc, hlt, hlt2, ff_11]))
                refine ih2 (g.rules.length - (i + 1)) (by omega) _ (skip hR (fun h1 h2 h3 => by rw [hcl, ← hm']; omega) _ ⟨f1, f2, f3, f5⟩ rfl rfl rfl rfl rfl ?_)
                simp only [packed, qv, Nat.reduceEqDiff, ↓reduceIte, f45, hiw, ff_11]
            · rw [hdb] at hgd hdl
              rw [if_neg (fun h => by rw [hdl] at h; cases h.2.1)] at hR
              simp only [SS, qx8, vun, simprocAttr, hmf, ff_11]
              repeat (first | refine qqm rfl ?_ | ((first | refine qqr ?_ | refine qqt ?_); simp only [SS, qx8, vun, simprocAttr, f2, f5, f45, hN2, hlv, st2.hd, hgd, ff_11]))
              refine ih2 (g.rules.length - (i + 1)) (by omega) _ (skip hR (fun h1 h2 h3 => by rw [hdl] at h1; cases h1) _ ⟨f1, f2, f3, f5⟩ rfl rfl rfl rfl rfl ?_)
              simp only [packed, qv, Nat.reduceEqDiff, ↓reduceIte, f45, hiw, ff_11]
          · rw [if_neg (fun h => hmf h.1)] at hR
            simp only [SS, qx8, vun, simprocAttr, hmf, ff_11]
            repeat (first | refine qqm rfl ?_ | ((first | refine qqr ?_ | refine qqt ?_); simp only [SS, qx8, vun, simprocAttr, f45, ff_11]))
            refine ih2 (g.rules.length - (i + 1)) (by omega) _ (skip hR (fun h1 h2 h3 => ?_) _ ⟨f1, f2, f3, f5⟩ rfl rfl rfl rfl rfl ?_)
            · rw [priceA_of _ 0 h2 (by omega)] at hpa
              cases hpa
              omega
            · simp only [packed, qv, Nat.reduceEqDiff, ↓reduceIte, f45, hiw, ff_11]
      · have hie : i = g.rules.length := by omega
        subst hie
        rw [List.drop_length] at hR
        simp only [relaxFrom] at hR
        subst hR
        simp only at hend'
        obtain ⟨P0, hP0⟩ : ∃ P0, pickFrom cl dl 0 g.vars.length none = P0 := ⟨_, rfl⟩
        rw [hP0] at hend'
        repeat (first | refine qqm rfl ?_ | ((first | refine qqr ?_ | refine qqt ?_); simp only [SS, qx8, vun, simprocAttr, f2, f44, f45, hil2, ff_11]))
        refine WK.loop (fun k s => ∃ (v : Nat), s.n = n5 ∧ s.H = H6 ∧ CFr n g s.f ∧ s.f 39 = .int .i64 g.vars.length ∧ s.f 40 = .int .i64 (q : Nat) ∧ s.f 87 = .int .i64 g.vars.length ∧ s.f 88 = .int .i64 (v : Nat) ∧ v ≤ g.vars.length ∧
            (s.f 6 = .int .i64 (-1) ∧ pickFrom cl dl v (g.vars.length - v) none = P0 ∧ (∀ u, u < v → dF dl u = false → farN ≤ cF cl u) ∨ ∃ a : Nat, s.f 6 = .int .i64 (a : Nat) ∧ pickFrom cl dl v (g.vars.length - v) (some a) = P0 ∧ a < v ∧ dF dl a = false ∧ cF cl a < farN ∧ ∀ u, u < v → dF dl u = false → cF cl a ≤ cF cl u) ∧ k = g.vars.length - v) g.vars.length ?_ ?_
        · exact ⟨0, rfl, rfl, ⟨f1, f2, f3, f5⟩, f39, f40, rfl, rfl, Nat.zero_le _, .inl ⟨f6, hP0, fun u h => by omega⟩, rfl⟩
        clear ih2 f1 f2 f3 f5 f6 f39 f40 f43 f44 f45
        rintro kk ⟨f, n7, H9⟩ ⟨v, rfl, rfl, ⟨f1, f2, f3, f5⟩, f39, f40, f87, f88, hvv, hat, rfl⟩ ih3
        simp only at st f1 f2 f3 f5 f39 f40 f87 f88 hat ih3
        by_cases hvl2 : v < g.vars.length
        · have hvw : IntKind.i64.wrap ((v : Int) + 1) = ((v + 1 : Nat) : Int) := by rw [wrap_in (by omega) (by omega)]; rfl
          have hvd : v < dl.length := by rw [st.ld]; exact hvl2
          have hvc : v < cl.length := by rw [st.lc]; exact hvl2
          have hgd : (dl.map Value.bool)[v]? = some (.bool dl[v]) := by rw [List.getElem?_map, List.getElem?_eq_getElem hvd]; rfl
          have hgc : (cl.map natC)[v]? = some (.int .i64 (cl[v] : Nat)) := by rw [List.getElem?_map, List.getElem?_eq_getElem hvc]; rfl
          have hdv : dF dl v = dl[v] := by simp [dF, hvd]
          have hcv : cF cl v = cl[v] := by simp [cF, hvc]
          have hstep : ∀ a, pickFrom cl dl v (g.vars.length - v) a = pickFrom cl dl (v + 1) (g.vars.length - (v + 1)) (if dF dl v = false ∧ cF cl v < farN ∧ (match a with | none => true | some a => decide (cF cl v < cF cl a)) = true then some v else a) := fun a => by
            rw [show g.vars.length - v = (g.vars.length - (v + 1)) + 1 by omega]; rfl
          have keepAt : ¬ (dF dl v = false ∧ cF cl v < farN) → (dF dl v = false → (f 6 = .int .i64 (-1) → farN ≤ cF cl v) ∧ (∀ a : Nat, f 6 = .int .i64 (a : Nat) → cF cl a < farN → cF cl a ≤ cF cl v)) → ∀ f' : Fr, f' 6 = f 6 →
              (f' 6 = .int .i64 (-1) ∧ pickFrom cl dl (v + 1) (g.vars.length - (v + 1)) none = P0 ∧ (∀ u, u < v + 1 → dF dl u = false → farN ≤ cF cl u) ∨ ∃ a : Nat, f' 6 = .int .i64 (a : Nat) ∧ pickFrom cl dl (v + 1) (g.vars.length - (v + 1)) (some a) = P0 ∧ a < v + 1 ∧ dF dl a = false ∧ cF cl a < farN ∧ ∀ u, u < v + 1 → dF dl u = false → cF cl a ≤ cF cl u) := by
            intro hno hk f' e6
            rcases hat with ⟨h6, hpk, hall⟩ | ⟨a, h6, hpk, ha, had, hac, hall⟩
            · rw [hstep, if_neg (fun h => hno ⟨h.1, h.2.1⟩)] at hpk
              refine .inl ⟨e6.trans h6, hpk, fun u hu hd => ?_⟩
              by_cases e : u = v
              · subst e; exact (hk hd).1 h6
              · exact hall u (by omega) hd
            · rw [hstep, if_neg (fun h => hno ⟨h.1, h.2.1⟩)] at hpk
              refine .inr ⟨a, e6.trans h6, hpk, by omega, had, hac, fun u hu hd => ?_⟩
              by_cases e : u = v
              · subst e; exact (hk hd).2 a h6 hac
              · exact hall u (by omega) hd
          cases hdb : dl[v]
          · rw [hdb] at hgd hdv
            by_cases hcf : (cl[v] : Int) < 1073741824
            · have hcf2 : cl[v] < 1073741824 := by omega
              rcases hat with ⟨h6, hpk, hall⟩ | ⟨a, h6, hpk, ha, had, hac, hall⟩
              · rw [hstep, if_pos ⟨hdv, by rw [hcv, hfar]; exact hcf2, rfl⟩] at hpk
                have hm1 : ((-1 : Int) < 0) = True := by simp
                repeat (first | refine qqm rfl ?_ | ((first | refine qqr ?_ | refine qqt ?_); simp only [SS, qx8, vun, simprocAttr, f2, f5, f87, f88, h6, hm1, hvl2, st.hd, st.hc, hgd, hgc, hcf, hcf2, ff_11]))
                refine ih3 (g.vars.length - (v + 1)) (by omega) _ ⟨v + 1, rfl, rfl, ⟨f1, f2, f3, f5⟩, f39, f40, f87, ?_, hvl2, .inr ⟨v, rfl, hpk, by omega, hdv, by rw [hcv, hfar]; exact hcf2, fun u hu hd => ?_⟩, rfl⟩
                · simp only [packed, qv, Nat.reduceEqDiff, ↓reduceIte, f88, hvw, ff_11]
                · by_cases e : u = v
                  · subst e; exact Nat.le_refl _
                  · have := hall u (by omega) hd
                    rw [hcv]; omega
              · have hac' : a < cl.length := by omega
                have hgca : (cl.map natC)[a]? = some (.int .i64 (cl[a] : Nat)) := by rw [List.getElem?_map, List.getElem?_eq_getElem hac']; rfl
                have hca : cF cl a = cl[a] := by simp [cF, hac']
                have hav : a < g.vars.length := by omega
                have ham : ((a : Int) < 0) = False := by simp
                by_cases hlt : (cl[v] : Int) < cl[a]
                · have hlt2 : cl[v] < cl[a] := by omega
                  rw [hstep, if_pos ⟨hdv, by rw [hcv, hfar]; exact hcf2, by simp only [hcv, hca, hlt2, decide_true]⟩] at hpk
                  repeat (first | refine qqm rfl ?_ | ((first | refine qqr ?_ | refine qqt ?_); simp only [SS, qx8, vun, simprocAttr, f2, f5, f87, f88, h6, ham, hav, hvl2, st.hd, st.hc, hgd, hgc, hgca, hcf, hcf2, hlt, hlt2, ff_11]))
                  refine ih3 (g.vars.length - (v + 1)) (by omega) _ ⟨v + 1, rfl, rfl, ⟨f1, f2, f3, f5⟩, f39, f40, f87, ?_, hvl2, .inr ⟨v, rfl, hpk, by omega, hdv, by rw [hcv, hfar]; exact hcf2, fun u hu hd => ?_⟩, rfl⟩
                  · simp only [packed, qv, Nat.reduceEqDiff, ↓reduceIte, f88, hvw, ff_11]
                  · by_cases e : u = v
                    · subst e; exact Nat.le_refl _
                    · have := hall u (by omega) hd
                      rw [hcv]; rw [hca] at this; omega
                · have hlt2 : ¬ cl[v] < cl[a] := by omega
                  rw [hstep, if_neg (fun h => by have := h.2.2; simp only [hcv, hca, hlt2, decide_false] at this; cases this)] at hpk
                  repeat (first | refine qqm rfl ?_ | ((first | refine qqr ?_ | refine qqt ?_); simp only [SS, qx8, vun, simprocAttr, f2, f5, f87, f88, h6, ham, hav, hvl2, st.hd, st.hc, hgd, hgc, hgca, hcf, hcf2, hlt, hlt2, ff_11]))
                  refine ih3 (g.vars.length - (v + 1)) (by omega) _ ⟨v + 1, rfl, rfl, ⟨f1, f2, f3, f5⟩, f39, f40, f87, ?_, hvl2, .inr ⟨a, h6, hpk, by omega, had, hac, fun u hu hd => ?_⟩, rfl⟩
                  · simp only [packed, qv, Nat.reduceEqDiff, ↓reduceIte, f88, hvw, ff_11]
                  · by_cases e : u = v
                    · subst e; rw [hcv, hca]; omega
                    · exact hall u (by omega) hd
            · have hcf2 : ¬ cl[v] < 1073741824 := by omega
              repeat (first | refine qqm rfl ?_ | ((first | refine qqr ?_ | refine qqt ?_); simp only [SS, qx8, vun, simprocAttr, f2, f5, f87, f88, hvl2, st.hd, st.hc, hgd, hgc, hcf, hcf2, ff_11]))
              refine ih3 (g.vars.length - (v + 1)) (by omega) _ ⟨v + 1, rfl, rfl, ⟨f1, f2, f3, f5⟩, f39, f40, f87, ?_, hvl2, keepAt (fun h => by have := h.2; rw [hcv, hfar] at this; exact hcf2 this) (fun _ => ⟨fun _ => by rw [hcv, hfar]; omega, fun a _ hac => by rw [hcv, hfar] at *; omega⟩) _ rfl, rfl⟩
              simp only [packed, qv, Nat.reduceEqDiff, ↓reduceIte, f88, hvw, ff_11]
          · rw [hdb] at hgd hdv
            repeat (first | refine qqm rfl ?_ | ((first | refine qqr ?_ | refine qqt ?_); simp only [SS, qx8, vun, simprocAttr, f2, f5, f87, f88, hvl2, st.hd, hgd, ff_11]))
            refine ih3 (g.vars.length - (v + 1)) (by omega) _ ⟨v + 1, rfl, rfl, ⟨f1, f2, f3, f5⟩, f39, f40, f87, ?_, hvl2, keepAt (fun h => by rw [hdv] at h; cases h.1) (fun h => by rw [hdv] at h; cases h) _ rfl, rfl⟩
            simp only [packed, qv, Nat.reduceEqDiff, ↓reduceIte, f88, hvw, ff_11]
        · rw [show g.vars.length - v = 0 by omega] at hat
          simp only [pickFrom] at hat
          rcases hat with ⟨h6, hpk, hall⟩ | ⟨a, h6, hpk, ha, had, hac, hall⟩
          · have hm1 : ((-1 : Int) < 0) = True := by simp
            subst hpk
            repeat (first | refine qqm rfl ?_ | ((first | refine qqr ?_ | refine qqt ?_); simp only [SS, qx8, vun, simprocAttr, f87, f88, h6, hm1, hvl2, ff_11]))
            exact WK.skipNil ⟨rfl, cl, bl, dl, ord, _, st, inv, .inl ⟨rfl, fun u hu hd => hall u (by omega) hd⟩, hend', f1, f2, f3, f5⟩
          · have hav : a < g.vars.length := by omega
            have ham : ((a : Int) < 0) = False := by simp
            have hal : a + 1 ≤ dl.length := by rw [st.ld]; exact hav
            have s3 : (dl.map Value.bool).set a (.bool true) = (dl.set a true).map .bool := by rw [List.map_set]
            subst hpk
            repeat (first | refine qqm rfl ?_ | ((first | refine qqr ?_ | refine qqt ?_); simp only [SS, qx8, vun, simprocAttr, f5, f40, f87, f88, h6, ham, hav, hvl2, st.hd, s3, hal, List.length_map, ff_11]))
            refine ih (g.vars.length - (q + 1)) (by omega) _ ⟨q + 1, cl, bl, dl.set a true, ord ++ [a], st.done hw, inv.choose hi hav had hac (fun u hu hd => hall u (by omega) hd) (dF_set (by omega)), by rw [List.length_append, hord]; rfl, ⟨f1, f2, f3, f5⟩, f39, ?_, hql, hend', rfl⟩
            simp only [packed, qv, Nat.reduceEqDiff, ↓reduceIte, f40, hqw, ff_11]
    · repeat (first | refine qqm rfl ?_ | ((first | refine qqr ?_ | refine qqt ?_); simp only [SS, qx8, vun, simprocAttr, f39, f40, hql, ff_11]))
      exact WK.skipNil ⟨rfl, cl, bl, dl, ord, 0, st, inv, .inr (by omega), by rw [hend, show g.vars.length - q = 0 by omega]; rfl, f1, f2, f3, f5⟩
end Go.Proofs.YtihjaobjhmmboaaGreatDoor
