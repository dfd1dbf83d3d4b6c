/- A part of a proof. Its conditions: none. -/
import Derived.Test.YtigijncdfkbaoaaGreatDoorAmYLfRight
import Derived.Test.YtigijncdfkbaoaaGreatDoorAmYKept
import Derived.Test.YtigijncdfkbaoaaGreatDoorAmC
import Derived.Test.YtigijncdfkbaoaaGreatDoorAmYInsC
import Derived.Test.YtigijncdfkbaoaaGreatDoorAmYDfAlive
import Derived.Test.YtigijncdfkbaoaaGreatDoorAmYFacts
import Derived.Test.YtigijncdfkbaoaaGreatDoorRows
set_option linter.all false
namespace Go.Proofs.YtigijncdfkbaoaaGreatDoor
open Go.AM
set_option maxRecDepth 100000
def AllUse (g : Gram) : Prop := ∀ r ∈ g.rules, Usd g r.left ∧ ∀ s ∈ r.right, 0 ≤ s → Prd g s
theorem prd_in {g : Gram} (hi : InG g) {v : Int} (h : Prd g v) : 0 ≤ v ∧ v < g.vars.length := by
 cases h with
 | mk i h h1 => exact ⟨hi.left0 _ (List.getElem_mem h), hi.left1 _ (List.getElem_mem h)⟩
theorem hold_of {n : Nat} {p : Int → Prop} (hp : ∀ v, p v → 0 ≤ v ∧ v < n) (v : Int) : hold ((List.range n).map fun i : Nat => @decide (p i) (Classical.propDecidable _)) v ↔ p v := by
 unfold hold
 constructor
 ·rintro ⟨h0, h1⟩
  rw [List.getD_eq_getElem?_getD, List.getElem?_map] at h1
  by_cases hl : v.toNat < n
  ·rw [List.getElem?_range hl] at h1
   simp only [Option.map_some, Option.getD_some, decide_eq_true_eq] at h1
   rwa [Int.toNat_of_nonneg h0] at h1
  ·rw [List.getElem?_eq_none (by simp; omega)] at h1
   simp at h1
 ·intro h
  obtain ⟨h0, h1⟩ := hp v h
  refine ⟨h0, ?_⟩
  rw [List.getD_eq_getElem?_getD, List.getElem?_map, List.getElem?_range (by omega)]
  simp only [Option.map_some, Option.getD_some, decide_eq_true_eq]
  rwa [Int.toNat_of_nonneg h0]
theorem kp_all {g : Gram} (hi : InG g) {us ws : List Bool} (hus : ∀ v, hold us v ↔ Usd g v) (hws : ∀ v, hold ws v ↔ Prd g v) {r : GRule} (hr : r ∈ g.rules) (h : kpB us ws r = true) : Usd g r.left ∧ ∀ s ∈ r.right, 0 ≤ s → Prd g s := by
 unfold kpB at h
 rw [Bool.and_eq_true] at h
 refine ⟨(hus _).1 ⟨hi.left0 r hr, h.1⟩, fun s hs h0 => (hws s).1 ((prdB_hold.1 h.2) s hs h0)⟩
set_option maxHeartbeats 8000000 in
theorem whole12_gives {v : Value} {g : Gram} {n : Nat} {H : Heap} (hw : WF n H) (hg : RG H v g) (wg : WG g) :
  Gives Tryz.prog 6 [v] n H fun v _ _ => ∃ t : Int, v = .int .i64 t ∧ (t = 0 ∨ t = 1 ∧ RightX g ∧ few g = true ∧ AllUse g) := by
 have hg0 := hg
 obtain ⟨pt, pv, pr, rfl, ht, hv, hr⟩ := hg
 refine Gives.of orders ok6 (Nat.le_of_ble_eq_true rfl) ?_
 have k1 := Kp.new n H (.cells (gcells pt pv pr g) 25 true)
 have hb := hset_at H n (.cells (gcells pt pv pr g) 25 true)
 repeat refine qqn rfl ?_
 (refine qqr ?_; simp only [SS, qx20, vun, simprocAttr, box_cells, box_one, ff_6])
 generalize hset H n (.cells (gcells pt pv pr g) 25 true) = H1 at *
 have hw1 := k1.wf hw
 have hg1 := hg0.mono hw k1
 repeat (first | refine qqm rfl ?_ | ((first | refine qqr ?_ | refine qqt ?_); simp only [SS, qx20, vun, simprocAttr, hb, gc_all, gc_len, ff_6]))
 refine AtCall.by (few_gives hw1 hg1 wg) ?_
 rintro v n2 H2 k2 rfl
 have hw2 := k2.wf hw1
 have hle2 := k2.le
 have hb2 := (k2.keep n (by omega)).trans hb
 have hg2 := hg1.mono hw1 k2
 have k12 := k1.trans k2
 cases hf : few g with
 | false =>
  simp only [SS, qx20, vun, simprocAttr, Bool.not_false, ff_6]
  repeat (first | refine qqm rfl ?_ | ((first | refine qqr ?_ | refine qqt ?_); simp only [SS, qx20, vun, simprocAttr, ff_6]))
  first | refine qqf ?_ ?_ | refine qqg ?_ ?_
  ·exact k12.keep
  ·simp only [packed, qv, Nat.reduceEqDiff, ↓reduceIte, ff_6]
   exact ⟨0, rfl, rfl⟩
 | true =>
  simp only [SS, qx20, vun, simprocAttr, Bool.not_true, hb2, gc_all, gc_len, ff_6]
  refine AtCall.by (rightX_gives hw2 hg2 wg) ?_
  rintro v n3 H3 k3 ⟨t, rfl, hok⟩
  have hw3 := k3.wf hw2
  have hle3 := k3.le
  have hb3 := (k3.keep n (by omega)).trans hb2
  have hg3 := hg2.mono hw2 k3
  have k13 := k12.trans k3
  cases t with
  | false =>
   simp only [SS, qx20, vun, simprocAttr, Bool.not_false, ff_6]
   repeat (first | refine qqm rfl ?_ | ((first | refine qqr ?_ | refine qqt ?_); simp only [SS, qx20, vun, simprocAttr, ff_6]))
   first | refine qqf ?_ ?_ | refine qqg ?_ ?_
   ·exact k13.keep
   ·simp only [packed, qv, Nat.reduceEqDiff, ↓reduceIte, ff_6]
    exact ⟨0, rfl, .inl rfl⟩
  | true =>
   have okx := hok rfl
   have ok := okx.toRightOK
   have hi := ok.inG
   have hrl := ok.rules
   have hus := hold_of (n := g.vars.length) (p := Usd g) fun v h => prd_in hi h.prd
   have hws := hold_of (n := g.vars.length) (p := Prd g) fun v h => prd_in hi h
   generalize hU : ((List.range g.vars.length).map fun i : Nat => @decide (Usd g i) (Classical.propDecidable _)) = us at *
   generalize hW : ((List.range g.vars.length).map fun i : Nat => @decide (Prd g i) (Classical.propDecidable _)) = ws at *
   have hul : us.length = g.vars.length := by rw [← hU]; simp
   have hwl : ws.length = g.vars.length := by rw [← hW]; simp
   simp only [SS, qx20, vun, simprocAttr, Bool.not_true, ff_6]
   repeat (first | refine qqm rfl ?_ | ((first | refine qqr ?_ | refine qqt ?_); simp only [SS, qx20, vun, simprocAttr, hb3, gc_2, ff_6]))
   refine WK.loop (fun kk s => ∃ i : Nat, Kp (n + 1) H1 s.n s.H ∧ s.f 1 = .pointer (some ⟨n, 0, none⟩) ∧ s.f 14 = .int .i64 (g.rules.length : Nat) ∧ s.f 15 = .int .i64 (i : Nat) ∧ i ≤ g.rules.length ∧ (∀ r ∈ g.rules.take i, kpB us ws r = true) ∧ kk = g.rules.length - i) g.rules.length ?_ ?_
   ·exact ⟨0, k2.trans k3, rfl, rfl, rfl, Nat.zero_le _, fun r hr => by simp at hr, rfl⟩
   clear k3 k13 hb3 hg3 hw3 hle3
   rintro kk ⟨f, n3, H3⟩ ⟨i, k3, f1, f14, f15, hil, hkp, rfl⟩ ih
   simp only at k3 f1 f14 f15 ih
   have hw3 := k3.wf hw1
   have hle3 := k3.le
   have hb3 := (k3.keep n (by omega)).trans hb
   have hg3 := hg1.mono hw1 k3
   by_cases hlt : i < g.rules.length
   ·have hiw : IntKind.i64.wrap ((i : Int) + 1) = ((i + 1 : Nat) : Int) := by rw [wrap_in (by omega) (by omega)]; rfl
    repeat (first | refine qqm rfl ?_ | ((first | refine qqr ?_ | refine qqt ?_); simp only [SS, qx20, vun, simprocAttr, f1, f14, f15, hlt, hb3, gc_all, gc_len, ff_6]))
    refine AtCall.by (kept_gives hw3 hg3 wg ok hlt hul hwl hus hws) ?_
    rintro v n4 H4 k4 rfl
    cases hk : kpB us ws g.rules[i] with
    | false =>
     simp only [SS, qx20, vun, simprocAttr, Bool.not_false, ff_6]
     repeat (first | refine qqm rfl ?_ | ((first | refine qqr ?_ | refine qqt ?_); simp only [SS, qx20, vun, simprocAttr, ff_6]))
     first | refine qqf ?_ ?_ | refine qqg ?_ ?_
     ·exact (k1.trans (k3.trans k4)).keep
     ·simp only [packed, qv, Nat.reduceEqDiff, ↓reduceIte, ff_6]
      exact ⟨0, rfl, .inl rfl⟩
    | true =>
     simp only [SS, qx20, vun, simprocAttr, Bool.not_true, ff_6]
     repeat (first | refine qqm rfl ?_ | ((first | refine qqr ?_ | refine qqt ?_); simp only [SS, qx20, vun, simprocAttr, f15, hiw, ff_6]))
     refine ih (g.rules.length - (i + 1)) (by omega) _ ⟨i + 1, k3.trans k4, f1, f14, rfl, hlt, fun r hr => ?_, rfl⟩
     rw [List.take_succ_eq_append_getElem hlt] at hr
     rcases List.mem_append.1 hr with hr | hr
     ·exact hkp r hr
     ·rw [List.mem_singleton] at hr; rw [hr]; exact hk
   ·rw [List.take_of_length_le (by omega)] at hkp
    repeat (first | refine qqm rfl ?_ | ((first | refine qqr ?_ | refine qqt ?_); simp only [SS, qx20, vun, simprocAttr, f1, f14, f15, hlt, ff_6]))
    first | refine qqf ?_ ?_ | refine qqg ?_ ?_
    ·exact (k1.trans k3).keep
    ·simp only [packed, qv, Nat.reduceEqDiff, ↓reduceIte, ff_6]
     exact ⟨1, rfl, .inr ⟨rfl, okx, fun r hr => kp_all hi hus hws hr (hkp r hr)⟩⟩
end Go.Proofs.YtigijncdfkbaoaaGreatDoor

namespace Go.Proofs.YtigijncdfkbaoaaGreatDoor
open Go.AM
set_option maxRecDepth 100000
theorem aop_slnil {P : Program} {f : Fr} {n : Nat} {H : Heap} {d : Option Nat} {t e : TypeId} {x h : Operand} {ty : TypeId} {p : String} {af : Array Edge} {gd : Option (Nat × Bool)} (he : P.underlying t = some (.slice e)) (hj : (P.info? e).isSome = true) (hx : evalA f x = .slice none 0 0) (hh : evalA f h = .int .i64 ((0 : Nat) : Int)) :
  aop P (evalA f) n H ⟨d, .slice t x none (some h) none, ty, p, af, gd⟩ = some { v := .slice none 0 0 } := by
 show (match evalA f x with | .slice a b c => aslice P H t (.slice a b c) (Option.map (evalA f) none) (Option.map (evalA f) (some h)) | .pointer a => _ | _ => _) = _
 rw [hx]
 show aslice P H t (.slice none 0 0) none (some (evalA f h)) = _
 rw [hh]
 unfold aslice
 rw [he]
 obtain ⟨j, hj⟩ := Option.isSome_iff_exists.1 hj
 simp only [hj]
 rfl
theorem und_il : Tryz.prog.underlying 26 = some (.slice 3) := by kernel_rfl
theorem inf_int : (Tryz.prog.info? 3).isSome = true := by kernel_rfl
set_option maxHeartbeats 16000000 in
theorem heads_gives {vg : Value} {g : Gram} {v : Int} {pw pm : Option Addr} {w m : List Int} {n : Nat} {H : Heap} (hw : WF n H) (hg : RG H vg g) (wg : WG g) (hro : AllRO H) (hpw : RS (Value.int .i64) H pw w) (hpm : RS (Value.int .i64) H pm m) :
  Gives Tryz.prog 4 [vg, .int .i64 v, .slice pw w.length w.length, .slice pm m.length m.length] n H fun r _ _ => r = .bool true := by
 have hg0 := hg
 obtain ⟨pt, pv, pr, rfl, ht, hvs, hr⟩ := hg
 refine Gives.of orders ok4 (Nat.le_of_ble_eq_true rfl) ?_
 have g2 : ((gcells pt pv pr g).drop 0).take 3 = gcells pt pv pr g := rfl
 have g3 : (gcells pt pv pr g).length = 3 := rfl
 repeat refine qqn rfl ?_
 (refine qqr ?_; simp only [SS, qx9, vun, simprocAttr, abox, box_cells, box_one, ff_4])
 have k1 := Kp.new n H (.cells (gcells pt pv pr g) 25 true)
 have hG := hset_at H n (.cells (gcells pt pv pr g) 25 true)
 generalize hset H n (.cells (gcells pt pv pr g) 25 true) = H1 at *
 have hw1 := k1.wf hw
 have hg1 : RG H1 (.agg (gcells pt pv pr g).toArray) g := hg0.mono hw k1
 repeat (first | refine qqm rfl ?_ | ((first | refine qqr ?_ | refine qqt ?_); simp only [SS, qx9, vun, simprocAttr, ff_4]))
 refine AtCall.by (alive_gives _ _) ?_
 rintro _ n2 H2 k2 ⟨rfl, hn2, hH2⟩
 subst hn2
 obtain rfl := hH2.symm
 simp only [SS, qx9, vun, simprocAttr, ff_4]
 repeat (first | refine qqm rfl ?_ | ((first | refine qqr ?_ | refine qqt ?_); simp only [SS, qx9, vun, simprocAttr, hG, g2, g3, ff_4]))
 refine AtCall.by (whole12_gives hw1 hg1 wg) ?_
 rintro _ n3 H3 k3 ⟨t, rfl, ht0⟩
 have hw3 := k3.wf hw1
 have hle3 := k3.le
 have k13 := k1.trans k3
 have hG3 := (k3.keep n (by omega)).trans hG
 rcases ht0 with rfl | ⟨rfl, okx, hfew, hall⟩
 ·simp only [SS, qx9, vun, simprocAttr, decide_true, ff_4]
  repeat (first | refine qqm rfl ?_ | ((first | refine qqr ?_ | refine qqt ?_); simp only [SS, qx9, vun, simprocAttr, ff_4]))
  first | refine qqf ?_ ?_ | refine qqg ?_ ?_
  ·exact k13.keep
  ·simp only [packed, qv, Nat.reduceEqDiff, ↓reduceIte, ff_4]
 have ok := okx.toRightOK
 unfold few at hfew
 simp only [Bool.and_eq_true, decide_eq_true_eq, List.all_eq_true] at hfew
 obtain ⟨⟨⟨fw1, fw2⟩, fw3⟩, fw4⟩ := hfew
 have h10 : ((1 : Int) = 0) = False := eq_false (by decide)
 by_cases hwl : 20 < w.length
 ·have hwl' : ((20 : Int) < (w.length : Int)) = True := eq_true (by omega)
  simp only [SS, qx9, vun, simprocAttr, h10, hwl', decide_true, decide_false, ff_4]
  repeat (first | refine qqm rfl ?_ | ((first | refine qqr ?_ | refine qqt ?_); simp only [SS, qx9, vun, simprocAttr, ff_4]))
  first | refine qqf ?_ ?_ | refine qqg ?_ ?_
  ·exact k13.keep
  ·simp only [packed, qv, Nat.reduceEqDiff, ↓reduceIte, ff_4]
 have hwl' : ((20 : Int) < (w.length : Int)) = False := eq_false (by omega)
 by_cases hml : 20 < m.length
 ·have hml' : ((20 : Int) < (m.length : Int)) = True := eq_true (by omega)
  simp only [SS, qx9, vun, simprocAttr, h10, hwl', hml', decide_true, decide_false, ff_4]
  repeat (first | refine qqm rfl ?_ | ((first | refine qqr ?_ | refine qqt ?_); simp only [SS, qx9, vun, simprocAttr, ff_4]))
  first | refine qqf ?_ ?_ | refine qqg ?_ ?_
  ·exact k13.keep
  ·simp only [packed, qv, Nat.reduceEqDiff, ↓reduceIte, ff_4]
 have hml' : ((20 : Int) < (m.length : Int)) = False := eq_false (by omega)
 simp only [SS, qx9, vun, simprocAttr, h10, hwl', hml', decide_false, ff_4]
 repeat (first | refine qqm rfl ?_ | ((first | refine qqr ?_ | refine qqt ?_); simp only [SS, qx9, vun, simprocAttr, hG3, g2, g3, ff_4]))
 refine AtCall.by (build_gives (dp := 12) (pl := 200) (st := 40) hw3 (hg0.mono hw k13) wg ok (by omega) (by omega) (by omega) (by omega)) ?_
 rintro _ n4 H4 k4 ⟨dv, b, N, R, rfl, hrd, hlN⟩
 have hw4 := k4.wf hw3
 have hle4 := k4.le
 have k14 := k13.trans k4
 obtain ⟨a, bb, rfl, hN, hR⟩ := hrd
 have sp2 : ∀ x y : Value, AM.splice [x, y] 0 (acells a bb N R) = acells a bb N R := fun _ _ => rfl
 have kD := Kp.new n4 H4 (.cells (acells a bb N R) 31 true)
 have hDb := hset_at H4 n4 (.cells (acells a bb N R) 31 true)
 simp only [SS, qx9, vun, simprocAttr, List.toList_toArray, ff_4]
 cases b with
 | false =>
  repeat (first | refine qqm rfl ?_ | ((first | refine qqr ?_ | refine qqt ?_); simp only [SS, qx9, vun, simprocAttr, abox_cells, abox_one, ac_len, sp2, hset_at, ff_4]))
  first | refine qqf ?_ ?_ | refine qqg ?_ ?_
  ·exact fun z hz => (kD.keep z (by omega)).trans (k14.keep z hz)
  ·simp only [packed, qv, Nat.reduceEqDiff, ↓reduceIte, ff_4]
 | true =>
  repeat (first | refine qqm rfl ?_ | ((first | refine qqr ?_ | refine qqt ?_); simp only [SS, qx9, vun, simprocAttr, abox_cells, abox_one, ac_len, ac_all, sp2, hset_at, ff_4]))
  generalize hset H4 n4 (.cells (acells a bb N R) 31 true) = H5 at *
  have hw5 := kD.wf hw4
  have k15 := k14.trans kD
  have hrd5 : RD H5 (.agg (acells a bb N R).toArray) N R := ⟨a, bb, rfl, hN.mono hw4 kD, hR.mono hw4 kD⟩
  have hlN2 : ∀ l ∈ N, l.length ≤ 65536 := fun l hl => by have := hlN l hl; omega
  refine AtCall.by (run_gives hw5 hrd5 (hpw.mono hw k15).ra (by omega) hlN2) ?_
  rintro _ n6 H6 k6 rfl
  have hw6 := k6.wf hw5
  have hle6 := k6.le
  have k16 := k15.trans k6
  have hDb6 := (k6.keep n4 (by omega)).trans hDb
  have hrd6 := hrd5.mono hw5 k6
  have hrle := runF_le (N := N) (R := R) (w := w) (w.length + 2) 0 0 (by omega)
  have hhead := fun (x : List Int) (r : Int) (u : Nat) h1 h2 h3 h4 h5 => runF_head (N := N) (R := R) (w := w) (x := x) (r := r) (u := u) h1 h2 h3 h4 (w.length + 2) 0 0 (by omega) h5 (x.length + 2) (by omega)
  generalize hres : runF N R w (w.length + 2) 0 0 = res at *
  obtain ⟨rule, used⟩ := res
  simp only at hrle
  simp only [SS, qx9, vun, simprocAttr, List.toList_toArray, ff_4]
  refine WK.frame (fun f => f 2 = .slice pw w.length w.length ∧ f 3 = .slice pm m.length m.length ∧ f 9 = .pointer (some ⟨n4, 0, none⟩) ∧ f 11 = .int .i64 rule ∧ f 12 = .int .i64 (used : Nat)) ⟨rfl, rfl, rfl, rfl, rfl⟩ ?_
  rintro f ⟨f2, f3, f9, f11, f12⟩
  have hu0 : ((used : Int) < 0) = False := eq_false (by omega)
  have hu1 : (((w.length + 1 : Nat) : Int) < (used : Int)) = False := eq_false (by omega)
  have hw1w : IntKind.i64.wrap ((w.length : Int) + 1) = ((w.length + 1 : Nat) : Int) := by rw [wrap_in (by omega) (by omega)]; rfl
  by_cases hr0 : rule < 0
  ·have hr0' : (rule < 0) = True := eq_true hr0
   repeat (first | refine qqm rfl ?_ | ((first | refine qqr ?_ | refine qqt ?_); simp only [SS, qx9, vun, simprocAttr, f2, f11, f12, hu0, hu1, hw1w, hr0', decide_true, decide_false, ff_4]))
   first | refine qqf ?_ ?_ | refine qqg ?_ ?_
   ·exact k16.keep
   ·simp only [packed, qv, Nat.reduceEqDiff, ↓reduceIte, ff_4]
  have hr0' : (rule < 0) = False := eq_false hr0
  by_cases huw : w.length < used
  ·have huw' : ((w.length : Int) < (used : Int)) = True := eq_true (by omega)
   repeat (first | refine qqm rfl ?_ | ((first | refine qqr ?_ | refine qqt ?_); simp only [SS, qx9, vun, simprocAttr, f2, f11, f12, hu0, hu1, hw1w, hr0', huw', decide_true, decide_false, ff_4]))
   first | refine qqf ?_ ?_ | refine qqg ?_ ?_
   ·exact k16.keep
   ·simp only [packed, qv, Nat.reduceEqDiff, ↓reduceIte, ff_4]
  have huw' : ((w.length : Int) < (used : Int)) = False := eq_false (by omega)
  have hul : used ≤ w.length := by omega
  repeat refine qqn rfl ?_
  (refine qqr ?_; simp only [SS, qx9, vun, simprocAttr, f12, f2, hu0, hu1, hw1w, decide_false, ff_4])
  repeat refine qqn rfl ?_
  refine qqm rfl ?_
  apply WK.skipSeq; apply WK.seq
  repeat refine qqn rfl ?_
  (refine qqr ?_; simp only [SS, qx9, vun, simprocAttr, f11, f12, f2, hr0', huw', decide_false, ff_4])
  repeat refine qqn rfl ?_
  refine qqm rfl ?_
  apply WK.skipSeq; apply WK.seq
  repeat refine qqn rfl ?_
  have htl : (w.take used).length = used := by rw [List.length_take, Nat.min_eq_left hul]
  have hxl : (w.take used ++ m).length = used + m.length := by rw [List.length_append, htl]
  have hrun : ∀ {n7 : Nat} {H7 : Heap} {y : Nat}, Kp n6 H6 n7 H7 → H7 y = .cells ((w.take used).map (Value.int .i64) ++ m.map (Value.int .i64)) 3 true → Gives Tryz.prog 8 [.agg (acells a bb N R).toArray, .slice (some ⟨y, 0, none⟩) (used + m.length) (used + m.length)] n7 H7 fun v _ _ => v = .tuple #[.int .i64 rule, .int .i64 (used : Nat)] := fun {n7 H7 y} k h => by
   have hra : RA (Value.int .i64) H7 (some ⟨y, 0, none⟩) (w.take used ++ m) := fun _ => ⟨y, 0, _, _, _, rfl, h, fun i z e => by rw [Nat.zero_add, ← List.map_append, List.getElem?_map, e]; rfl⟩
   have hg := run_gives (k.wf hw6) (hrd6.mono hw6 k) hra (by rw [hxl]; omega) hlN2
   rw [hxl] at hg
   have hh := hhead (w.take used ++ m) rule used (by omega) hul (by rw [hxl]; omega) (fun j hj => by
    rw [List.getD_eq_getElem?_getD, List.getD_eq_getElem?_getD, List.getElem?_append_left (by rw [htl]; exact hj), List.getElem?_take, if_pos hj]) rfl
   rw [hxl] at hh
   rw [hh] at hg
   exact hg
  have hul' : ((used : Int) ≤ (w.length : Int)) = True := eq_true (by omega)
  have bl1 : used ≤ bigN := by unfold bigN; omega
  have bl2 : used + m.length ≤ bigN := by unfold bigN; omega
  have hee : (rule = rule) = True := eq_self _
  have heu : ((used : Int) = (used : Int)) = True := eq_self _
  have hml2 : ((w.take used).map (Value.int .i64)).length = used := by rw [List.length_map, htl]
  have htk2 : ((w.take used).map (Value.int .i64)).take used = (w.take used).map (Value.int .i64) := List.take_of_length_le (by omega)
  have hle16 := k16.le
  rcases hpw with ⟨g1, g2'⟩ | ⟨x, kx, cs, ty, own, g1, g2', g3', g4⟩
  ·have hwz : w.length = 0 := by rw [g2']; rfl
   obtain rfl : used = 0 := by omega
   rcases hpm with ⟨e1, e2⟩ | ⟨x', kx', cs', ty', own', e1, e2, e3, e4⟩
   ·have hmz : m.length = 0 := by rw [e2]; rfl
    (refine WK.rgl [(0, 5), (0, 7)] (by kernel_rfl) ?_; simp only [wl, wl1_false, wl1_true, wl2_none, wl2_some, wl3_some, wl3_none, SS, forall_const, wx, tguard, acallee, top, tval, fput, tor, vsh, vbin, vun, tload, tload2, tload3, tstore, tstore2, tstore3, Go.AM.splice, one, tlen2, tlen3, tpick, textr, tbox, talloc, still, still1, flat1, tbs, tbs2, afill, tsl, tsl2, tsl3, tsl4, tsl5, Go.AM.bound, tap, tap2, tap3, tap4, tsrc, tsrc2, simprocAttr, f2, f3, f9, f12, g1, e1, hwz, hmz, aop_slnil und_il inf_int, hDb6, ac_all, ac_len, hul, hul', bl1, bl2, hml2, htk2, isz_3, Bool.false_eq_true, false_implies, hset_at, hset_hset, Nat.zero_le, Nat.le_refl, Nat.zero_add, Nat.add_zero, Nat.sub_zero, Nat.mul_one, Nat.zero_mul, List.drop_zero, List.take_zero, List.take_nil, List.drop_nil, List.nil_append, List.append_nil, List.length_nil, List.contains_nil, ff_4])
    simp only [hmz, Nat.add_zero] at hrun
    refine AtCallL.by (hrun (((Kp.new n6 H6 .dead).trans (Kp.new (n6 + 1) _ .dead)).trans (Kp.new (n6 + 1 + 1) _ (.cells ([]) 3 true))) ((hset_at _ _ _).trans (by rw [e2]; rfl))) ?_
    rintro _ n7 H7 k7 rfl
    have hle7 := k7.le
    simp only [wl, wl1_false, wl1_true, wl2_none, wl2_some, wl3_some, wl3_none, SS, forall_const, wx, tguard, acallee, top, tval, fput, tor, vsh, vbin, vun, tload, tload2, tload3, tstore, tstore2, tstore3, Go.AM.splice, one, tlen2, tlen3, tpick, textr, tbox, talloc, still, still1, flat1, tbs, tbs2, afill, tsl, tsl2, tsl3, tsl4, tsl5, Go.AM.bound, tap, tap2, tap3, tap4, tsrc, tsrc2, simprocAttr, List.toList_toArray, ff_4]
    refine ⟨light_cons rfl rfl (lapart_rw (by simp; omega)) (light_cons rfl rfl (lapart_rw (by simp; omega)) light_nil), ?_⟩
    repeat (first | refine qqm rfl ?_ | ((first | refine qqr ?_ | refine qqt ?_); simp only [SS, qx9, vun, simprocAttr, f11, f12, hee, heu, decide_true, ff_4]))
    first | refine qqf ?_ ?_ | refine qqg ?_ ?_
    ·exact fun z hz => (k7.keep z (by omega)).trans ((hset_ne _ _ _ (by omega)).trans ((hset_ne _ _ _ (by omega)).trans ((hset_ne _ _ _ (by omega)).trans (k16.keep z hz))))
    ·simp only [packed, qv, Nat.reduceEqDiff, ↓reduceIte, ff_4]
   ·have hown' := hro _ _ _ _ e2
    subst hown'
    have hxn' := live_lt hw (live_of e2)
    have hx6' := (k16.keep x' hxn').trans e2
    have q1 : ∀ A C, hset (hset H6 n6 A) (n6 + 1) C x' = _ := fun A C => (hset_ne _ _ _ (by omega)).trans ((hset_ne _ _ _ (by omega)).trans hx6')
    have ct2 : [x'].contains (n6 + 1) = false := by simp; omega
    have htake' : (cs'.drop kx').take m.length = m.map (Value.int .i64) := RS.cells e3 e4
    have blm : m.length ≤ bigN := by unfold bigN; omega
    (refine WK.rgl [(0, 5), (0, 7)] (by kernel_rfl) ?_; simp only [wl, wl1_false, wl1_true, wl2_none, wl2_some, wl3_some, wl3_none, SS, forall_const, wx, tguard, acallee, top, tval, fput, tor, vsh, vbin, vun, tload, tload2, tload3, tstore, tstore2, tstore3, Go.AM.splice, one, tlen2, tlen3, tpick, textr, tbox, talloc, still, still1, flat1, tbs, tbs2, afill, tsl, tsl2, tsl3, tsl4, tsl5, Go.AM.bound, tap, tap2, tap3, tap4, tsrc, tsrc2, simprocAttr, f2, f3, f9, f12, g1, e1, hwz, q1, ct2, htake', e3, blm, aop_slnil und_il inf_int, hDb6, ac_all, ac_len, hul, hul', bl1, bl2, hml2, htk2, isz_3, Bool.false_eq_true, false_implies, hset_at, hset_hset, Nat.zero_le, Nat.le_refl, Nat.zero_add, Nat.add_zero, Nat.sub_zero, Nat.mul_one, Nat.zero_mul, List.drop_zero, List.take_zero, List.take_nil, List.drop_nil, List.nil_append, List.append_nil, List.length_nil, List.contains_nil, ff_4])
    simp only [Nat.zero_add] at hrun
    refine AtCallL.by (hrun (((Kp.new n6 H6 .dead).trans (Kp.new (n6 + 1) _ .dead)).trans (Kp.new (n6 + 1 + 1) _ (.cells (m.map (Value.int .i64)) 3 true))) (hset_at _ _ _)) ?_
    rintro _ n7 H7 k7 rfl
    have hle7 := k7.le
    simp only [wl, wl1_false, wl1_true, wl2_none, wl2_some, wl3_some, wl3_none, SS, forall_const, wx, tguard, acallee, top, tval, fput, tor, vsh, vbin, vun, tload, tload2, tload3, tstore, tstore2, tstore3, Go.AM.splice, one, tlen2, tlen3, tpick, textr, tbox, talloc, still, still1, flat1, tbs, tbs2, afill, tsl, tsl2, tsl3, tsl4, tsl5, Go.AM.bound, tap, tap2, tap3, tap4, tsrc, tsrc2, simprocAttr, List.toList_toArray, ff_4]
    refine ⟨light_cons rfl rfl (lapart_rw (by simp; omega)) (light_cons rfl rfl (lapart_rw (by simp; omega)) light_nil), ?_⟩
    repeat (first | refine qqm rfl ?_ | ((first | refine qqr ?_ | refine qqt ?_); simp only [SS, qx9, vun, simprocAttr, f11, f12, hee, heu, decide_true, ff_4]))
    first | refine qqf ?_ ?_ | refine qqg ?_ ?_
    ·exact fun z hz => (k7.keep z (by omega)).trans ((hset_ne _ _ _ (by omega)).trans ((hset_ne _ _ _ (by omega)).trans ((hset_ne _ _ _ (by omega)).trans (k16.keep z hz))))
    ·simp only [packed, qv, Nat.reduceEqDiff, ↓reduceIte, ff_4]
  ·have hown := hro _ _ _ _ g2'
   subst hown
   have hxn := live_lt hw (live_of g2')
   have hx6 := (k16.keep x hxn).trans g2'
   have q0 : ∀ A, hset H6 n6 A x = _ := fun A => (hset_ne _ _ _ (by omega)).trans hx6
   have ct1 : [x].contains n6 = false := by simp; omega
   have htake : (cs.drop kx).take used = (w.take used).map (Value.int .i64) := by
    have h5 := RS.cells g3' g4
    have h6 := congrArg (List.take used) h5
    rw [List.take_take, Nat.min_eq_left hul] at h6
    rw [h6, List.map_take]
   have hfit1 : kx + used ≤ cs.length := by omega
   rcases hpm with ⟨e1, e2⟩ | ⟨x', kx', cs', ty', own', e1, e2, e3, e4⟩
   ·have hmz : m.length = 0 := by rw [e2]; rfl
    (refine WK.rgl [(0, 5), (0, 7)] (by kernel_rfl) ?_; simp only [wl, wl1_false, wl1_true, wl2_none, wl2_some, wl3_some, wl3_none, SS, forall_const, wx, tguard, acallee, top, tval, fput, tor, vsh, vbin, vun, tload, tload2, tload3, tstore, tstore2, tstore3, Go.AM.splice, one, tlen2, tlen3, tpick, textr, tbox, talloc, still, still1, flat1, tbs, tbs2, afill, tsl, tsl2, tsl3, tsl4, tsl5, Go.AM.bound, tap, tap2, tap3, tap4, tsrc, tsrc2, simprocAttr, f2, f3, f9, f12, g1, e1, hmz, q0, ct1, htake, hfit1, hDb6, ac_all, ac_len, hul, hul', bl1, bl2, hml2, htk2, isz_3, Bool.false_eq_true, false_implies, hset_at, hset_hset, Nat.zero_le, Nat.le_refl, Nat.zero_add, Nat.add_zero, Nat.sub_zero, Nat.mul_one, Nat.zero_mul, List.drop_zero, List.take_zero, List.take_nil, List.drop_nil, List.nil_append, List.append_nil, List.length_nil, List.contains_nil, ff_4])
    simp only [hmz, Nat.add_zero] at hrun
    refine AtCallL.by (hrun (((Kp.new n6 H6 .dead).trans (Kp.new (n6 + 1) _ .dead)).trans (Kp.new (n6 + 1 + 1) _ (.cells ((w.take used).map (Value.int .i64)) 3 true))) ((hset_at _ _ _).trans (by rw [e2]; simp))) ?_
    rintro _ n7 H7 k7 rfl
    have hle7 := k7.le
    simp only [wl, wl1_false, wl1_true, wl2_none, wl2_some, wl3_some, wl3_none, SS, forall_const, wx, tguard, acallee, top, tval, fput, tor, vsh, vbin, vun, tload, tload2, tload3, tstore, tstore2, tstore3, Go.AM.splice, one, tlen2, tlen3, tpick, textr, tbox, talloc, still, still1, flat1, tbs, tbs2, afill, tsl, tsl2, tsl3, tsl4, tsl5, Go.AM.bound, tap, tap2, tap3, tap4, tsrc, tsrc2, simprocAttr, List.toList_toArray, ff_4]
    refine ⟨light_cons rfl rfl (lapart_rw (by simp; omega)) (light_cons rfl rfl (lapart_rw (by simp; omega)) light_nil), ?_⟩
    repeat (first | refine qqm rfl ?_ | ((first | refine qqr ?_ | refine qqt ?_); simp only [SS, qx9, vun, simprocAttr, f11, f12, hee, heu, decide_true, ff_4]))
    first | refine qqf ?_ ?_ | refine qqg ?_ ?_
    ·exact fun z hz => (k7.keep z (by omega)).trans ((hset_ne _ _ _ (by omega)).trans ((hset_ne _ _ _ (by omega)).trans ((hset_ne _ _ _ (by omega)).trans (k16.keep z hz))))
    ·simp only [packed, qv, Nat.reduceEqDiff, ↓reduceIte, ff_4]
   ·have hown' := hro _ _ _ _ e2
    subst hown'
    have hxn' := live_lt hw (live_of e2)
    have hx6' := (k16.keep x' hxn').trans e2
    have q1 : ∀ A C, hset (hset H6 n6 A) (n6 + 1) C x' = _ := fun A C => (hset_ne _ _ _ (by omega)).trans ((hset_ne _ _ _ (by omega)).trans hx6')
    have ct2 : [x'].contains (n6 + 1) = false := by simp; omega
    have htake' : (cs'.drop kx').take m.length = m.map (Value.int .i64) := RS.cells e3 e4
    (refine WK.rgl [(0, 5), (0, 7)] (by kernel_rfl) ?_; simp only [wl, wl1_false, wl1_true, wl2_none, wl2_some, wl3_some, wl3_none, SS, forall_const, wx, tguard, acallee, top, tval, fput, tor, vsh, vbin, vun, tload, tload2, tload3, tstore, tstore2, tstore3, Go.AM.splice, one, tlen2, tlen3, tpick, textr, tbox, talloc, still, still1, flat1, tbs, tbs2, afill, tsl, tsl2, tsl3, tsl4, tsl5, Go.AM.bound, tap, tap2, tap3, tap4, tsrc, tsrc2, simprocAttr, f2, f3, f9, f12, g1, e1, q0, q1, ct1, ct2, htake, htake', hfit1, e3, hDb6, ac_all, ac_len, hul, hul', bl1, bl2, hml2, htk2, isz_3, Bool.false_eq_true, false_implies, hset_at, hset_hset, Nat.zero_le, Nat.le_refl, Nat.zero_add, Nat.add_zero, Nat.sub_zero, Nat.mul_one, Nat.zero_mul, List.drop_zero, List.take_zero, List.take_nil, List.drop_nil, List.nil_append, List.append_nil, List.length_nil, List.contains_nil, ff_4])
    refine AtCallL.by (hrun (((Kp.new n6 H6 .dead).trans (Kp.new (n6 + 1) _ .dead)).trans (Kp.new (n6 + 1 + 1) _ (.cells ((w.take used).map (Value.int .i64) ++ m.map (Value.int .i64)) 3 true))) (hset_at _ _ _)) ?_
    rintro _ n7 H7 k7 rfl
    have hle7 := k7.le
    simp only [wl, wl1_false, wl1_true, wl2_none, wl2_some, wl3_some, wl3_none, SS, forall_const, wx, tguard, acallee, top, tval, fput, tor, vsh, vbin, vun, tload, tload2, tload3, tstore, tstore2, tstore3, Go.AM.splice, one, tlen2, tlen3, tpick, textr, tbox, talloc, still, still1, flat1, tbs, tbs2, afill, tsl, tsl2, tsl3, tsl4, tsl5, Go.AM.bound, tap, tap2, tap3, tap4, tsrc, tsrc2, simprocAttr, List.toList_toArray, ff_4]
    refine ⟨light_cons rfl rfl (lapart_rw (by simp; omega)) (light_cons rfl rfl (lapart_rw (by simp; omega)) light_nil), ?_⟩
    repeat (first | refine qqm rfl ?_ | ((first | refine qqr ?_ | refine qqt ?_); simp only [SS, qx9, vun, simprocAttr, f11, f12, hee, heu, decide_true, ff_4]))
    first | refine qqf ?_ ?_ | refine qqg ?_ ?_
    ·exact fun z hz => (k7.keep z (by omega)).trans ((hset_ne _ _ _ (by omega)).trans ((hset_ne _ _ _ (by omega)).trans ((hset_ne _ _ _ (by omega)).trans (k16.keep z hz))))
    ·simp only [packed, qv, Nat.reduceEqDiff, ↓reduceIte, ff_4]
end Go.Proofs.YtigijncdfkbaoaaGreatDoor

namespace Go.Proofs.YtigijncdfkbaoaaGreatDoor
open Go.AM
set_option maxRecDepth 100000
theorem und_22 : Tryz.prog.underlying 22 = some (.slice 9) := by kernel_rfl
theorem und_23 : Tryz.prog.underlying 23 = some (.slice 70) := by kernel_rfl
theorem und_26 : Tryz.prog.underlying 26 = some (.slice 3) := by kernel_rfl
theorem und_25 : ∃ f1 f2 f3 : Field, Tryz.prog.underlying 25 = some (.struct #[f1, f2, f3]) ∧ f1.type = 22 ∧ f1.offset = 0 ∧ f2.type = 22 ∧ f2.offset = 1 ∧ f3.type = 23 ∧ f3.offset = 2 :=
 ⟨{ name := "Terms", type := 22, offset := 0, embedded := false, tag := "", pkgPath := "", byteOffset := 0 }, { name := "Vars", type := 22, offset := 1, embedded := false, tag := "", pkgPath := "", byteOffset := 24 },
  { name := "Rules", type := 23, offset := 2, embedded := false, tag := "", pkgPath := "", byteOffset := 48 }, by kernel_rfl, rfl, rfl, rfl, rfl, rfl, rfl⟩
theorem und_70 : ∃ f1 f2 f3 : Field, Tryz.prog.underlying 70 = some (.struct #[f1, f2, f3]) ∧ f1.type = 3 ∧ f1.offset = 0 ∧ f2.type = 26 ∧ f2.offset = 1 ∧ f3.type = 68 ∧ f3.offset = 2 :=
 ⟨{ name := "Left", type := 3, offset := 0, embedded := false, tag := "", pkgPath := "", byteOffset := 0 }, { name := "Right", type := 26, offset := 1, embedded := false, tag := "", pkgPath := "", byteOffset := 8 },
  { name := "Weight", type := 68, offset := 2, embedded := false, tag := "", pkgPath := "", byteOffset := 32 }, by kernel_rfl, rfl, rfl, rfl, rfl, rfl, rfl⟩
theorem gramT : GramT Tryz.prog 25 70 3 9 22 23 26 68 := ⟨und_25, und_70, und_3, und_9, und_22, und_23, und_26, und_68, csz_3, csz_9, csz_22, csz_23, csz_26, csz_68, csz_70, csz_25⟩
theorem own : ownKnob Tryz.prog.godebug = none := by kernel_rfl
theorem laid : laidOutB Tryz.prog = true := by kernel_rfl
end Go.Proofs.YtigijncdfkbaoaaGreatDoor

namespace Go.Proofs.YtigijncdfkbaoaaGreatDoor
open Go.AM
set_option maxRecDepth 100000
def tens : List Value := [.int .u64 1, .int .u64 10, .int .u64 100, .int .u64 1000, .int .u64 10000, .int .u64 100000, .int .u64 1000000, .int .u64 10000000, .int .u64 100000000, .int .u64 1000000000, .int .u64 10000000000, .int .u64 100000000000, .int .u64 1000000000000, .int .u64 10000000000000, .int .u64 100000000000000, .int .u64 1000000000000000, .int .u64 10000000000000000, .int .u64 100000000000000000, .int .u64 1000000000000000000, .int .u64 10000000000000000000]
theorem globs0 {W : World} (hs : W.ShapedOpen Tryz.prog) : Globs Tryz.prog W (fun _ => .dead) := by
 refine (fun (h : ngl Tryz.prog ≤ W.heap.size ∧ 0 < W.heap.size) => ⟨fun _ _ => rfl, fun _ h => absurd rfl h, h.1, h.2⟩) ?_
 have hlast : ngl Tryz.prog - 1 < W.heap.size := by
  have hsome : (((begin Tryz.prog (fun _ _ => 0) default).world.heap[ngl Tryz.prog - 1]?).bind Obj.row?).isSome = true := by kernel_rfl
  obtain ⟨⟨z, t⟩, hz⟩ := Option.isSome_iff_exists.1 hsome
  exact heap_of_shaped hs (of_decide_eq_true (by kernel_rfl)) hz
 exact ⟨by omega, by omega⟩
noncomputable def deB32 : List Value := [0, 1, 28, 2, 29, 14, 24, 3, 30, 22, 20, 15, 25, 17, 4, 8, 31, 27, 13, 23, 21, 19, 16, 7, 26, 12, 18, 6, 11, 5, 10, 9].map (Value.int .u8)
noncomputable def deB64 : List Value := [0, 1, 56, 2, 57, 49, 28, 3, 61, 58, 42, 50, 38, 29, 17, 4, 62, 47, 59, 36, 45, 43, 51, 22, 53, 39, 33, 30, 24, 18, 12, 5, 63, 55, 48, 27, 60, 41, 37, 16, 46, 35, 44, 21, 52, 32, 23, 11, 54, 26, 40, 15, 34, 20, 31, 10, 25, 14, 19, 9, 13, 8, 7, 6].map (Value.int .u8)
noncomputable def rest : List Obj := [.cells ((List.range Tryz.prog.types.size).map fun i => .int .u64 i).toArray 0, .map #[] 0, .finalizers #[] none, .cells #[.bool false] 0, .finalizers #[] none]
noncomputable def laidHeap : Array Obj := (([.cells tens.toArray 163, ((begin Tryz.prog (fun _ _ => 0) default).world.heap.toList.getD 1 (.map #[] 0)), .cells deB32.toArray 175, .cells deB64.toArray 176] : List Obj) ++ rest).toArray
noncomputable def laidWorld (os : Os) : World := { World.settled Tryz.prog os with heap := laidHeap }
theorem laid_world (w : World) (hw : w.heap = laidHeap) : laidMet Tryz.prog Rows.dfaHeadsRow.laid w := by
 have hv : ∀ (nm : String) (g : Nat) (cs : List Value) (t : TypeId), Tryz.prog.globalNamed nm = some g → laidHeap[g]? = some (.cells cs.toArray t (0, 0)) → w.var? Tryz.prog nm = some cs.toArray := by
  intro nm g cs t h1 h2
  unfold World.var?
  rw [h1, hw]
  simp [h2]
 refine laidMet_mk (ps := MemPlace.row ⟨2, 0, none⟩ 32 ++ [] ++ (MemPlace.row ⟨3, 0, none⟩ 64 ++ [] ++ (MemPlace.row ⟨0, 0, none⟩ 20 ++ [] ++ []))) 1400 [2, 3, 0] ?_ (by kernel_rfl) (by kernel_rfl) ?_
 ·exact ⟨2, 175, deB32.toArray, 2, [], _, by kernel_rfl, by kernel_rfl, hv "math/bits.deBruijn32tab" 2 deB32 175 (by kernel_rfl) rfl, by kernel_rfl, ⟨3, 176, deB64.toArray, 2, [], _, by kernel_rfl, by kernel_rfl, hv "math/bits.deBruijn64tab" 3 deB64 176 (by kernel_rfl) rfl, by kernel_rfl, ⟨0, 163, tens.toArray, 2, [], _, by kernel_rfl, by kernel_rfl, hv "internal/strconv.uint64pow10" 0 tens 163 (by kernel_rfl) rfl, by kernel_rfl, rfl, rfl⟩, rfl⟩, rfl⟩
 ·intro b hb
  simp only [List.mem_cons, List.mem_nil_iff, or_false] at hb
  rcases hb with rfl | rfl | rfl
  ·exact ⟨(deB32).toArray, 175, by rw [hw]; rfl, by kernel_rfl⟩
  ·exact ⟨(deB64).toArray, 176, by rw [hw]; rfl, by kernel_rfl⟩
  ·exact ⟨(tens).toArray, 163, by rw [hw]; rfl, by kernel_rfl⟩
end Go.Proofs.YtigijncdfkbaoaaGreatDoor
