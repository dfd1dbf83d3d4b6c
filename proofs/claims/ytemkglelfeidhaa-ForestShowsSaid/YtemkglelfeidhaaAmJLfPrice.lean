/- A part of a proof. Its conditions: none. -/
import Derived.Test.YtemkglelfeidhaaAmJLfNullable
import Derived.Test.YtemkglelfeidhaaAmC
import Derived.Test.YtemkglelfeidhaaAmD
set_option linter.all false
namespace Go.Proofs.Ytemkglelfeidhaa
open Go.AM
set_option maxRecDepth 100000
theorem prd1_gives {l : Int} {right : List Int} {wt : Nat} {p : Option Addr} {y x n : Nat} {H : Heap} {hs : List Bool} (hw : WF n H) (hp : RA (Value.int .i64) H p right)
  (hy : H y = .cells [.slice (some ⟨x, 0, none⟩) hs.length hs.length] 97 true) (hx : H x = .cells (hs.map .bool) 4 true) (hl : right.length ≤ maxL) (hr : ∀ s ∈ right, s < hs.length) :
  Gives Try.prog 79 [.agg #[.int .i64 l, .slice p right.length right.length, .float .f64 wt], .pointer (some ⟨y, 0, none⟩)] n H fun v _ _ => v = .bool (prdB right hs) := by
 refine Gives.of orders ok79 (Nat.le_of_ble_eq_true rfl) ?_
 have hk := Kp.new n H (.cells [.int .i64 l, .slice p right.length right.length, .float .f64 wt] 49 true)
 have hb := hset_at H n (.cells [.int .i64 l, .slice p right.length right.length, .float .f64 wt] 49 true)
 have low : ∀ {z cs ty own}, H z = .cells cs ty own → z < n := fun {z cs ty own} e => by
  apply Classical.byContradiction
  intro hc
  rw [hw z (by omega)] at e; cases e
 replace hp := hp.mono hw hk
 replace hy := (hk.keep y (low hy)).trans hy
 replace hx := (hk.keep x (low hx)).trans hx
 repeat refine qqn rfl ?_
 (refine qqr ?_; simp only [SS, qx0, vun, simprocAttr, ff_79])
 repeat refine qqn rfl ?_
 generalize hset H n (.cells [.int .i64 l, .slice p right.length right.length, .float .f64 wt] 49 true) = H1 at *
 repeat (first | refine qqm rfl ?_ | ((first | refine qqr ?_ | refine qqt ?_); simp only [SS, qx0, vun, simprocAttr, hb, ff_79]))
 unfold maxL at hl
 refine WK.loop (fun k s => ∃ j, s.n = n + 1 ∧ s.H = H1 ∧ s.f 1 = .pointer (some ⟨y, 0, none⟩) ∧ s.f 7 = .slice p right.length right.length ∧ s.f 8 = .int .i64 (right.length : Nat) ∧ s.f 9 = .int .i64 (j : Nat) ∧ j ≤ right.length ∧ k = right.length - j ∧ prdB (right.take j) hs = true) right.length ?_ ?_
 ·exact ⟨0, rfl, rfl, rfl, rfl, rfl, rfl, Nat.zero_le _, rfl, rfl⟩
 rintro kk ⟨f, n', H'⟩ ⟨j, rfl, rfl, f1, f7, f8, f9, hj, rfl, hn⟩ ih
 simp only at f1 f7 f8 f9 ih hb hp hx hy hk
 by_cases hjr : j < right.length
 ·obtain ⟨z, kz, ds, tz, oz, rfl, hz, e⟩ := hp.at hjr
  have htj : right.take (j + 1) = right.take j ++ [right[j]] := List.take_succ_eq_append_getElem hjr
  have hlt := hr _ (List.getElem_mem hjr)
  repeat (first | refine qqm rfl ?_ | ((first | refine qqr ?_ | refine qqt ?_); simp only [SS, qx0, vun, simprocAttr, f1, f7, f8, f9, hjr, hz, e, ff_79]))
  refine AtCall.by (isVar_gives _ _ _) ?_
  rintro v n2 H2 hk2 ⟨rfl, rfl, rfl⟩
  by_cases h0 : 0 ≤ right[j]
  ·obtain ⟨s, hs'⟩ : ∃ s : Nat, right[j] = s := ⟨right[j].toNat, by omega⟩
   have hsl : s < hs.length := by omega
   have hg : (hs.map Value.bool)[s]? = some (.bool hs[s]) := by rw [List.getElem?_map, List.getElem?_eq_getElem hsl]; rfl
   cases hb2 : hs[s]
   ·rw [hb2] at hg
    simp only [SS, qx0, vun, simprocAttr, f1, f7, f8, f9, hjr, hs', h0, hy, hx, hsl, hg, ff_79]
    repeat (first | refine qqm rfl ?_ | ((first | refine qqr ?_ | refine qqt ?_); simp only [SS, qx0, vun, simprocAttr, f1, f7, f8, f9, ff_79]))
    (first | refine WK.retNil ⟨Or.inr rfl, _, rfl, ?_, ?_⟩ | refine WK.skipNil ⟨Or.inl rfl, _, rfl, ?_, ?_⟩)
    ·exact hk.keep
    ·simp only [packed, fset_apply, Nat.reduceEqDiff, ↓reduceIte, List.getD_cons_zero, List.getD_cons_succ, ff_79]
     have : prdB right hs = false := by
      unfold prdB
      rw [List.all_eq_false]
      exact ⟨right[j], List.getElem_mem hjr, by rw [hs']; simp [hsl, hb2]⟩
     rw [this]
   ·rw [hb2] at hg
    simp only [SS, qx0, vun, simprocAttr, f1, f7, f8, f9, hjr, hs', h0, hy, hx, hsl, hg, ff_79]
    repeat (first | refine qqm rfl ?_ | ((first | refine qqr ?_ | refine qqt ?_); simp only [SS, qx0, vun, simprocAttr, f1, f7, f8, f9, ff_79]))
    refine ih (right.length - (j + 1)) (by omega) _ ⟨j + 1, rfl, rfl, f1, f7, f8, ?_, hjr, rfl, ?_⟩
    ·simp only [packed, fset_apply, Nat.reduceEqDiff, ↓reduceIte, List.getD_cons_zero, List.getD_cons_succ, f9, ff_79]
     rw [wrap_in (by omega) (by omega)]; rfl
    ·rw [htj]
     unfold prdB at hn ⊢
     rw [List.all_append, hn, hs']
     simp [hsl, hb2]
  ·simp only [SS, qx0, vun, simprocAttr, f1, f7, f8, f9, hjr, h0, ff_79]
   repeat (first | refine qqm rfl ?_ | ((first | refine qqr ?_ | refine qqt ?_); simp only [SS, qx0, vun, simprocAttr, f1, f7, f8, f9, ff_79]))
   refine ih (right.length - (j + 1)) (by omega) _ ⟨j + 1, rfl, rfl, f1, f7, f8, ?_, hjr, rfl, ?_⟩
   ·simp only [packed, fset_apply, Nat.reduceEqDiff, ↓reduceIte, List.getD_cons_zero, List.getD_cons_succ, f9, ff_79]
    rw [wrap_in (by omega) (by omega)]; rfl
   ·rw [htj]
    unfold prdB at hn ⊢
    rw [List.all_append, hn]
    simp [show right[j] < 0 by omega]
 ·repeat (first | refine qqm rfl ?_ | ((first | refine qqr ?_ | refine qqt ?_); simp only [SS, qx0, vun, simprocAttr, f1, f7, f8, f9, hjr, ff_79]))
  (first | refine WK.retNil ⟨Or.inr rfl, _, rfl, ?_, ?_⟩ | refine WK.skipNil ⟨Or.inl rfl, _, rfl, ?_, ?_⟩)
  ·exact hk.keep
  ·simp only [packed, fset_apply, Nat.reduceEqDiff, ↓reduceIte, List.getD_cons_zero, List.getD_cons_succ, ff_79]
   rw [List.take_of_length_le (by omega)] at hn
   rw [hn]
set_option maxHeartbeats 4000000 in
theorem productive_gives {v : Value} {g : Gram} {n : Nat} {H : Heap} (hw : WF n H) (hg : RG H v g) (wg : WG g) (ok : RightOK g) :
  Gives Try.prog 60 [v] n H fun v n' H' => ∃ (hs : List Bool) (x : Nat), n ≤ x ∧ x < n' ∧ v = .slice (some ⟨x, 0, none⟩) g.vars.length g.vars.length ∧ hs.length = g.vars.length ∧ H' x = .cells (hs.map .bool) 4 true ∧ ∀ v, hold hs v ↔ Prd g v := by
 have hg0 := hg
 obtain ⟨pt, pv, pr, rfl, ht, hv, hr⟩ := hg
 refine Gives.of orders ok60 (Nat.le_of_ble_eq_true rfl) ?_
 have hk := Kp.new n H (.cells (gcells pt pv pr g) 25 true)
 have hb := hset_at H n (.cells (gcells pt pv pr g) 25 true)
 have hi := ok.inG
 have hvl : (g.vars.length : Int) ≤ bigN := by have := ok.vars; unfold bigN; omega
 repeat refine qqn rfl ?_
 (refine qqr ?_; simp only [SS, qx30, simprocAttr, box_cells, box_one, ff_60])
 generalize hset H n (.cells (gcells pt pv pr g) 25 true) = H1 at *
 repeat refine qqn rfl ?_
 (refine qqr ?_; simp only [SS, qx30, simprocAttr, hb, gc_0, gc_1, gc_2, hvl, ff_60])
 repeat refine qqn rfl ?_
 have k1 := (Kp.new (n + 1) H1 (.cells (rep g.vars.length [.bool false]) 4 true)).trans (Kp.new (n + 1 + 1) _ (.cells [.slice (some ⟨n + 1, 0, none⟩) g.vars.length g.vars.length] 97 true))
 have b0 := (k1.keep n (by omega)).trans hb
 have b1 : (hset (hset H1 (n + 1) (.cells (rep g.vars.length [.bool false]) 4 true)) (n + 1 + 1) (.cells [.slice (some ⟨n + 1, 0, none⟩) g.vars.length g.vars.length] 97 true)) (n + 1) = _ := (hset_ne _ _ _ (by omega)).trans (hset_at _ _ _)
 have b2 : (hset (hset H1 (n + 1) (.cells (rep g.vars.length [.bool false]) 4 true)) (n + 1 + 1) (.cells [.slice (some ⟨n + 1, 0, none⟩) g.vars.length g.vars.length] 97 true)) (n + 1 + 1) = _ := hset_at _ _ _
 generalize hset (hset H1 (n + 1) (.cells (rep g.vars.length [.bool false]) 4 true)) (n + 1 + 1) (.cells [.slice (some ⟨n + 1, 0, none⟩) g.vars.length g.vars.length] 97 true) = H2 at *
 rw [rep_map] at b1
 (refine qqr ?_; simp only [SS, qx30, simprocAttr, b0, b1, b2, gc_len, gc_all, ff_60])
 have kk := hk.trans k1
 have hf := fix_gives (F := 79) (captured := [.pointer (some ⟨n + 1 + 1, 0, none⟩)]) (fun r => prdB r.right) hw hg0 wg kk (x := n + 1) (by omega) (hs := List.replicate g.vars.length false) (by rw [List.length_replicate]; exact wg.vars) b1 (by omega)
  (fun r hr => ⟨hi.left0 r hr, by rw [List.length_replicate]; exact hi.left1 r hr⟩) (fun n3 H3 hs1 hw3 kx hl hx r hr p hp => by
   have hy := (kx.keep (n + 1 + 1) (by omega) (by omega)).trans b2
   rw [List.length_replicate] at hl
   rw [← hl] at hy
   exact prd1_gives hw3 hp hy hx (wg.right r hr).1 (fun s hs => by rw [hl]; exact hi.right r hr s hs))
 rw [List.length_replicate] at hf
 refine AtCall.byX hf ?_
 rintro v n3 H3 kx ⟨rfl, hs, hx, hl, hd, hc⟩
 simp only [SS, qx30, simprocAttr, ff_60]
 repeat (first | refine qqm rfl ?_ | ((first | refine qqr ?_ | refine qqt ?_); simp only [SS, qx30, simprocAttr, ff_60]))
 (first | refine WK.retNil ⟨Or.inr rfl, _, rfl, ?_, ?_⟩ | refine WK.skipNil ⟨Or.inl rfl, _, rfl, ?_, ?_⟩)
 ·exact fun y hy => (kx.keep y (by omega) (by omega)).trans (kk.keep y hy)
 ·simp only [packed, fset_apply, Nat.reduceEqDiff, ↓reduceIte, List.getD_cons_zero, List.getD_cons_succ, ff_60]
  have := kx.le
  refine ⟨hs, n + 1, by omega, by show n + 1 < n3; omega, rfl, by rw [hl], hx, fun v => ⟨der_prd hi hd v, closed_prd hi hc v⟩⟩
end Go.Proofs.Ytemkglelfeidhaa

namespace Go.Proofs.Ytemkglelfeidhaa
open Go.AM
set_option maxRecDepth 100000
def natC (u : Nat) : Value := .int .i64 (u : Nat)
def cF (cost : List Nat) (v : Nat) : Nat := cost.getD v 0
def dF (done : List Bool) (v : Nat) : Bool := done.getD v false
def priceV (cost : List Nat) (done : List Bool) (right : List Int) : Value := match priceA (cF cost) (dF done) 0 right with
 | none => .tuple #[.int .i64 0, .bool false]
 | some m => .tuple #[.int .i64 (m : Nat), .bool (decide (m < farN))]
theorem price_gives {l : Int} {right : List Int} {wt : Nat} {p : Option Addr} {xc xd n : Nat} {H : Heap} {cost : List Nat} {done : List Bool} (hw : WF n H) (hp : RA (Value.int .i64) H p right)
    (hc : H xc = .cells (cost.map natC) 3 true) (hd : H xd = .cells (done.map .bool) 4 true) (hl : right.length ≤ 1000) (hr : ∀ s ∈ right, s < cost.length) (hcd : done.length = cost.length) (hcf : ∀ k ∈ cost, k ≤ farN) :
    Gives Try.prog 78 [.agg #[.int .i64 l, .slice p right.length right.length, .float .f64 wt], .slice (some ⟨xc, 0, none⟩) cost.length cost.length, .slice (some ⟨xd, 0, none⟩) cost.length cost.length] n H fun v _ _ => v = priceV cost done right := by
  refine Gives.of orders ok78 (Nat.le_of_ble_eq_true rfl) ?_
  have hk := Kp.new n H (.cells [.int .i64 l, .slice p right.length right.length, .float .f64 wt] 49 true)
  have hb := hset_at H n (.cells [.int .i64 l, .slice p right.length right.length, .float .f64 wt] 49 true)
  replace hp := hp.mono hw hk
  replace hc := (hk.keep xc (live_lt hw (live_of hc))).trans hc
  replace hd := (hk.keep xd (live_lt hw (live_of hd))).trans hd
  repeat refine qqn rfl ?_
  (refine qqr ?_; simp only [SS, qx7, vun, simprocAttr, ff_78])
  repeat refine qqn rfl ?_
  generalize hset H n (.cells [.int .i64 l, .slice p right.length right.length, .float .f64 wt] 49 true) = H1 at *
  repeat (first | refine qqm rfl ?_ | ((first | refine qqr ?_ | refine qqt ?_); simp only [SS, qx7, vun, simprocAttr, hb, ff_78]))
  refine WK.loop (fun k s => ∃ j m, s.n = n + 1 ∧ s.H = H1 ∧ s.f 1 = .slice (some ⟨xc, 0, none⟩) cost.length cost.length ∧ s.f 2 = .slice (some ⟨xd, 0, none⟩) cost.length cost.length ∧ s.f 8 = .int .i64 (m : Nat) ∧ s.f 12 = .slice p right.length right.length ∧ s.f 13 = .int .i64 right.length ∧ s.f 14 = .int .i64 (j : Nat) ∧ j ≤ right.length ∧ m ≤ farN + j ∧
      priceA (cF cost) (dF done) 0 right = priceA (cF cost) (dF done) m (right.drop j) ∧ k = right.length - j) right.length ?_ ?_
  · exact ⟨0, 0, rfl, rfl, rfl, rfl, rfl, rfl, rfl, rfl, Nat.zero_le _, by omega, rfl, rfl⟩
  rintro kk ⟨f, n', H'⟩ ⟨j, m, rfl, rfl, f1, f2, f8, f12, f13, f14, hj, hm, hpr, rfl⟩ ih
  simp only at f1 f2 f8 f12 f13 f14 ih hp hc hd hk
  have hfar : farN = 1073741824 := rfl
  by_cases hjr : j < right.length
  · obtain ⟨z, kz, ds, tz, oz, rfl, hz, e⟩ := hp.at hjr
    have hlt := hr _ (List.getElem_mem hjr)
    have hjw : IntKind.i64.wrap ((j : Int) + 1) = ((j + 1 : Nat) : Int) := by rw [wrap_in (by omega) (by omega)]; rfl
    have hdrop : right.drop j = right[j] :: right.drop (j + 1) := List.drop_eq_getElem_cons hjr
    rw [hdrop] at hpr
    simp only [priceA] at hpr
    repeat (first | refine qqm rfl ?_ | ((first | refine qqr ?_ | refine qqt ?_); simp only [SS, qx7, vun, simprocAttr, f12, f13, f14, hjr, hz, e, ff_78]))
    refine AtCall.by (isVar_gives _ _ _) ?_
    rintro v n2 H2 hk2 ⟨rfl, rfl, rfl⟩
    by_cases h0 : 0 ≤ right[j]
    · obtain ⟨s, hs⟩ : ∃ s : Nat, right[j] = s := ⟨right[j].toNat, by omega⟩
      have hsl : s < cost.length := by omega
      have hsd : s < done.length := by omega
      have hneg : ¬ ((s : Int) < 0) := by omega
      have hgd : (done.map Value.bool)[s]? = some (.bool done[s]) := by rw [List.getElem?_map, List.getElem?_eq_getElem hsd]; rfl
      have hgc : (cost.map natC)[s]? = some (.int .i64 (cost[s] : Nat)) := by rw [List.getElem?_map, List.getElem?_eq_getElem hsl]; rfl
      have hdf : dF done s = done[s] := by simp [dF, hsd]
      have hcf' : cF cost s = cost[s] := by simp [cF, hsl]
      rw [hs, if_neg hneg, Int.toNat_natCast, hdf, hcf'] at hpr
      have hci := hcf _ (List.getElem_mem hsl)
      cases hbd : done[s]
      · rw [hbd] at hgd hpr
        simp only [Bool.false_eq_true, if_false] at hpr
        simp only [SS, qx7, vun, simprocAttr, h0, ff_78]
        repeat (first | refine qqm rfl ?_ | ((first | refine qqr ?_ | refine qqt ?_); simp only [SS, qx7, vun, simprocAttr, f2, hs, hsl, hd, hgd, ff_78]))
        (first | refine WK.retNil ⟨Or.inr rfl, _, rfl, ?_, ?_⟩ | refine WK.skipNil ⟨Or.inl rfl, _, rfl, ?_, ?_⟩)
        · exact hk.keep
        · simp only [packed, fset_apply, Nat.reduceEqDiff, ↓reduceIte, List.getD_cons_zero, List.getD_cons_succ, ff_78]
          unfold priceV
          rw [hpr]
      · rw [hbd] at hgd hpr
        simp only [if_true] at hpr
        have hadd : IntKind.i64.wrap ((m : Int) + (cost[s] : Nat)) = ((m + cost[s] : Nat) : Int) := by rw [wrap_in (by omega) (by omega)]; omega
        simp only [SS, qx7, vun, simprocAttr, h0, ff_78]
        repeat (first | refine qqm rfl ?_ | ((first | refine qqr ?_ | refine qqt ?_); simp only [SS, qx7, vun, simprocAttr, f1, f2, f8, f14, hs, hsl, hd, hgd, hc, hgc, hadd, aop_min, tmm, Bool.false_eq_true, ff_78]))
        refine ih (right.length - (j + 1)) (by omega) _ ⟨j + 1, min (m + cost[s]) farN, rfl, rfl, f1, f2, ?_, f12, f13, ?_, hjr, by omega, hpr, rfl⟩
        · simp only [packed, fset_apply, Nat.reduceEqDiff, ↓reduceIte, List.getD_cons_zero, List.getD_cons_succ, ff_78]
          congr 1
          rw [hfar]
          split <;> omega
        · simp only [packed, fset_apply, Nat.reduceEqDiff, ↓reduceIte, List.getD_cons_zero, List.getD_cons_succ, f14, hjw, ff_78]
    · have hneg : right[j] < 0 := by omega
      rw [if_pos hneg] at hpr
      have hadd : IntKind.i64.wrap ((m : Int) + 1) = ((m + 1 : Nat) : Int) := by rw [wrap_in (by omega) (by omega)]; omega
      simp only [SS, qx7, vun, simprocAttr, h0, ff_78]
      repeat (first | refine qqm rfl ?_ | ((first | refine qqr ?_ | refine qqt ?_); simp only [SS, qx7, vun, simprocAttr, f8, f14, hadd, ff_78]))
      refine ih (right.length - (j + 1)) (by omega) _ ⟨j + 1, m + 1, rfl, rfl, f1, f2, rfl, f12, f13, ?_, hjr, by omega, hpr, rfl⟩
      simp only [packed, fset_apply, Nat.reduceEqDiff, ↓reduceIte, List.getD_cons_zero, List.getD_cons_succ, f14, hjw, ff_78]
  · have hje : j = right.length := by omega
    subst hje
    rw [List.drop_length] at hpr
    simp only [priceA] at hpr
    repeat (first | refine qqm rfl ?_ | ((first | refine qqr ?_ | refine qqt ?_); simp only [SS, qx7, vun, simprocAttr, f8, f13, f14, hjr, ff_78]))
    (first | refine WK.retNil ⟨Or.inr rfl, _, rfl, ?_, ?_⟩ | refine WK.skipNil ⟨Or.inl rfl, _, rfl, ?_, ?_⟩)
    · exact hk.keep
    · simp only [packed, fset_apply, Nat.reduceEqDiff, ↓reduceIte, List.getD_cons_zero, List.getD_cons_succ, f8, ff_78]
      unfold priceV
      rw [hpr]
      have : decide ((m : Int) < 1073741824) = decide (m < farN) := by rw [decide_eq_decide, hfar]; omega
      simp only [this]
end Go.Proofs.Ytemkglelfeidhaa
