/- A part of a proof. Its conditions: none. -/
import Derived.Test.YtfbdababcdfjfaaAmNLfRight
import Derived.Test.YtfbdababcdfjfaaAmNKpD
import Derived.Test.YtfbdababcdfjfaaAmNKept
import Derived.Test.YtfbdababcdfjfaaAmC
import Derived.Test.YtfbdababcdfjfaaAmNAtMv
import Derived.Test.YtfbdababcdfjfaaAmNLfNan
import Derived.Test.YtfbdababcdfjfaaAmNLfBytes
import Derived.Test.YtfbdababcdfjfaaAmNAtStep
import Derived.Test.YtfbdababcdfjfaaAmD
set_option linter.all false
namespace Go.Proofs.Ytfbdababcdfjfaa
open Go.AM
set_option maxRecDepth 100000
def AllUse (g : Gram) : Prop := ∀ r ∈ g.rules, Usd g r.left ∧ ∀ s ∈ r.right, 0 ≤ s → Prd g s
theorem prd_in {g : Gram} (hi : InG g) {v : Int} (h : Prd g v) : 0 ≤ v ∧ v < g.vars.length := by
 cases h with
 | mk i h h1 => exact ⟨hi.left0 _ (List.getElem_mem h), hi.left1 _ (List.getElem_mem h)⟩
theorem hold_of {n : Nat} {p : Int → Prop} (hp : ∀ v, p v → 0 ≤ v ∧ v < n) (v : Int) : hold ((List.range n).map fun i : Nat => @decide (p i) (Classical.propDecidable _)) v ↔ p v := by
 unfold hold
 constructor
 ·rintro ⟨h0, h1⟩
  rw [List.getD_eq_getElem?_getD, List.getElem?_map] at h1
  by_cases hl : v.toNat < n
  ·rw [List.getElem?_range hl] at h1
   simp only [Option.map_some, Option.getD_some, decide_eq_true_eq] at h1
   rwa [Int.toNat_of_nonneg h0] at h1
  ·rw [List.getElem?_eq_none (by simp; omega)] at h1
   simp at h1
 ·intro h
  obtain ⟨h0, h1⟩ := hp v h
  refine ⟨h0, ?_⟩
  rw [List.getD_eq_getElem?_getD, List.getElem?_map, List.getElem?_range (by omega)]
  simp only [Option.map_some, Option.getD_some, decide_eq_true_eq]
  rwa [Int.toNat_of_nonneg h0]
theorem kp_all {g : Gram} (hi : InG g) {us ws : List Bool} (hus : ∀ v, hold us v ↔ Usd g v) (hws : ∀ v, hold ws v ↔ Prd g v) {r : GRule} (hr : r ∈ g.rules) (h : kpB us ws r = true) : Usd g r.left ∧ ∀ s ∈ r.right, 0 ≤ s → Prd g s := by
 unfold kpB at h
 rw [Bool.and_eq_true] at h
 refine ⟨(hus _).1 ⟨hi.left0 r hr, h.1⟩, fun s hs h0 => (hws s).1 ((prdB_hold.1 h.2) s hs h0)⟩
set_option maxHeartbeats 8000000 in
theorem whole12_gives {v : Value} {g : Gram} {n : Nat} {H : Heap} (hw : WF n H) (hg : RG H v g) (wg : WG g) :
  Gives Try.prog 8 [v] n H fun v _ _ => ∃ t : Int, v = .int .i64 t ∧ (t = 0 ∨ t = 1 ∧ RightX g ∧ few g = true ∧ AllUse g) := by
 have hg0 := hg
 obtain ⟨pt, pv, pr, rfl, ht, hv, hr⟩ := hg
 refine Gives.of orders ok8 (Nat.le_of_ble_eq_true rfl) ?_
 have k1 := Kp.new n H (.cells (gcells pt pv pr g) 25 true)
 have hb := hset_at H n (.cells (gcells pt pv pr g) 25 true)
 repeat refine qqn rfl ?_
 (refine qqr ?_; simp only [SS, qx20, vun, simprocAttr, box_cells, box_one, ff_8])
 generalize hset H n (.cells (gcells pt pv pr g) 25 true) = H1 at *
 have hw1 := k1.wf hw
 have hg1 := hg0.mono hw k1
 repeat (first | refine qqm rfl ?_ | ((first | refine qqr ?_ | refine qqt ?_); simp only [SS, qx20, vun, simprocAttr, hb, gc_all, gc_len, ff_8]))
 refine AtCall.by (few_gives hw1 hg1 wg) ?_
 rintro v n2 H2 k2 rfl
 have hw2 := k2.wf hw1
 have hle2 := k2.le
 have hb2 := (k2.keep n (by omega)).trans hb
 have hg2 := hg1.mono hw1 k2
 have k12 := k1.trans k2
 cases hf : few g with
 | false =>
  simp only [SS, qx20, vun, simprocAttr, Bool.not_false, ff_8]
  repeat (first | refine qqm rfl ?_ | ((first | refine qqr ?_ | refine qqt ?_); simp only [SS, qx20, vun, simprocAttr, ff_8]))
  first | refine qqf ?_ ?_ | refine qqg ?_ ?_
  ·exact k12.keep
  ·simp only [packed, qv, Nat.reduceEqDiff, ↓reduceIte, ff_8]
   exact ⟨0, rfl, rfl⟩
 | true =>
  simp only [SS, qx20, vun, simprocAttr, Bool.not_true, hb2, gc_all, gc_len, ff_8]
  refine AtCall.by (rightX_gives hw2 hg2 wg) ?_
  rintro v n3 H3 k3 ⟨t, rfl, hok⟩
  have hw3 := k3.wf hw2
  have hle3 := k3.le
  have hb3 := (k3.keep n (by omega)).trans hb2
  have hg3 := hg2.mono hw2 k3
  have k13 := k12.trans k3
  cases t with
  | false =>
   simp only [SS, qx20, vun, simprocAttr, Bool.not_false, ff_8]
   repeat (first | refine qqm rfl ?_ | ((first | refine qqr ?_ | refine qqt ?_); simp only [SS, qx20, vun, simprocAttr, ff_8]))
   first | refine qqf ?_ ?_ | refine qqg ?_ ?_
   ·exact k13.keep
   ·simp only [packed, qv, Nat.reduceEqDiff, ↓reduceIte, ff_8]
    exact ⟨0, rfl, .inl rfl⟩
  | true =>
   have okx := hok rfl
   have ok := okx.toRightOK
   have hi := ok.inG
   have hrl := ok.rules
   have hus := hold_of (n := g.vars.length) (p := Usd g) fun v h => prd_in hi h.prd
   have hws := hold_of (n := g.vars.length) (p := Prd g) fun v h => prd_in hi h
   generalize hU : ((List.range g.vars.length).map fun i : Nat => @decide (Usd g i) (Classical.propDecidable _)) = us at *
   generalize hW : ((List.range g.vars.length).map fun i : Nat => @decide (Prd g i) (Classical.propDecidable _)) = ws at *
   have hul : us.length = g.vars.length := by rw [← hU]; simp
   have hwl : ws.length = g.vars.length := by rw [← hW]; simp
   simp only [SS, qx20, vun, simprocAttr, Bool.not_true, ff_8]
   repeat (first | refine qqm rfl ?_ | ((first | refine qqr ?_ | refine qqt ?_); simp only [SS, qx20, vun, simprocAttr, hb3, gc_2, ff_8]))
   refine WK.loop (fun kk s => ∃ i : Nat, Kp (n + 1) H1 s.n s.H ∧ s.f 1 = .pointer (some ⟨n, 0, none⟩) ∧ s.f 14 = .int .i64 (g.rules.length : Nat) ∧ s.f 15 = .int .i64 (i : Nat) ∧ i ≤ g.rules.length ∧ (∀ r ∈ g.rules.take i, kpB us ws r = true) ∧ kk = g.rules.length - i) g.rules.length ?_ ?_
   ·exact ⟨0, k2.trans k3, rfl, rfl, rfl, Nat.zero_le _, fun r hr => by simp at hr, rfl⟩
   clear k3 k13 hb3 hg3 hw3 hle3
   rintro kk ⟨f, n3, H3⟩ ⟨i, k3, f1, f14, f15, hil, hkp, rfl⟩ ih
   simp only at k3 f1 f14 f15 ih
   have hw3 := k3.wf hw1
   have hle3 := k3.le
   have hb3 := (k3.keep n (by omega)).trans hb
   have hg3 := hg1.mono hw1 k3
   by_cases hlt : i < g.rules.length
   ·have hiw : IntKind.i64.wrap ((i : Int) + 1) = ((i + 1 : Nat) : Int) := by rw [wrap_in (by omega) (by omega)]; rfl
    repeat (first | refine qqm rfl ?_ | ((first | refine qqr ?_ | refine qqt ?_); simp only [SS, qx20, vun, simprocAttr, f1, f14, f15, hlt, hb3, gc_all, gc_len, ff_8]))
    refine AtCall.by (kept_gives hw3 hg3 wg ok hlt hul hwl hus hws) ?_
    rintro v n4 H4 k4 rfl
    cases hk : kpB us ws g.rules[i] with
    | false =>
     simp only [SS, qx20, vun, simprocAttr, Bool.not_false, ff_8]
     repeat (first | refine qqm rfl ?_ | ((first | refine qqr ?_ | refine qqt ?_); simp only [SS, qx20, vun, simprocAttr, ff_8]))
     first | refine qqf ?_ ?_ | refine qqg ?_ ?_
     ·exact (k1.trans (k3.trans k4)).keep
     ·simp only [packed, qv, Nat.reduceEqDiff, ↓reduceIte, ff_8]
      exact ⟨0, rfl, .inl rfl⟩
    | true =>
     simp only [SS, qx20, vun, simprocAttr, Bool.not_true, ff_8]
     repeat (first | refine qqm rfl ?_ | ((first | refine qqr ?_ | refine qqt ?_); simp only [SS, qx20, vun, simprocAttr, f15, hiw, ff_8]))
     refine ih (g.rules.length - (i + 1)) (by omega) _ ⟨i + 1, k3.trans k4, f1, f14, rfl, hlt, fun r hr => ?_, rfl⟩
     rw [List.take_succ_eq_append_getElem hlt] at hr
     rcases List.mem_append.1 hr with hr | hr
     ·exact hkp r hr
     ·rw [List.mem_singleton] at hr; rw [hr]; exact hk
   ·rw [List.take_of_length_le (by omega)] at hkp
    repeat (first | refine qqm rfl ?_ | ((first | refine qqr ?_ | refine qqt ?_); simp only [SS, qx20, vun, simprocAttr, f1, f14, f15, hlt, ff_8]))
    first | refine qqf ?_ ?_ | refine qqg ?_ ?_
    ·exact (k1.trans k3).keep
    ·simp only [packed, qv, Nat.reduceEqDiff, ↓reduceIte, ff_8]
     exact ⟨1, rfl, .inr ⟨rfl, okx, fun r hr => kp_all hi hus hws hr (hkp r hr)⟩⟩
end Go.Proofs.Ytfbdababcdfjfaa

namespace Go.Proofs.Ytfbdababcdfjfaa
open Go.AM
set_option maxRecDepth 100000
theorem startL_mem (g : Gram) (v : Int) : ∀ x ∈ startL g v, x.2 = none ∧ x.1.stack = [] ∧ GC g x.1 := by
 intro x hx
 unfold startL at hx
 split at hx
 case isFalse => simp at hx
 obtain ⟨r, hr, rfl⟩ := List.mem_map.1 hx
 unfold ruleIx at hr
 have hr1 := List.mem_range.1 (List.mem_filter.1 hr).1
 exact ⟨rfl, rfl, ⟨by show (r : Int) < _; omega, fun q _ _ => ⟨Int.le_refl _, by show (0 : Int) ≤ _; omega⟩⟩, fun s hs => by simp at hs⟩
theorem startL_len (g : Gram) (v : Int) : (startL g v).length ≤ g.rules.length := by
 unfold startL
 split
 ·rw [List.length_map]
  unfold ruleIx
  exact Nat.le_trans (List.length_filter_le _ _) (by rw [List.length_range]; exact Nat.le_refl _)
 ·exact Nat.zero_le _
end Go.Proofs.Ytfbdababcdfjfaa

namespace Go.Proofs.Ytfbdababcdfjfaa
open Go.AM
set_option maxRecDepth 100000
theorem low_mask (a : Int) (m : Nat) (hm : m < 256) : ∃ j : Nat, j ≤ m ∧ IntKind.i64.wrap ((BitVec.ofInt IntKind.i64.bits a &&& BitVec.ofInt IntKind.i64.bits (m : Int)).toNat : Int) = (j : Int) := by
 have h : (BitVec.ofInt 64 a &&& BitVec.ofInt 64 (m : Int)).toNat ≤ m := by
  rw [BitVec.toNat_and]
  have : (BitVec.ofInt 64 (m : Int)).toNat = m := by
   rw [BitVec.toNat_ofInt]; omega
  rw [this]
  exact Nat.and_le_right
 refine ⟨(BitVec.ofInt 64 a &&& BitVec.ofInt 64 (m : Int)).toNat, h, ?_⟩
 show IntKind.i64.wrap (((BitVec.ofInt 64 a &&& BitVec.ofInt 64 (m : Int)).toNat : Nat) : Int) = _
 rw [wrap_in (by omega) (by omega)]
theorem step_alt {g : Gram} {cl : List (List (Int × Int))} {c d : Cfg} (h : d ∈ stepL g cl c) : d.alt = c.alt := by
 unfold stepL at h
 split at h
 ·simp at h
 split at h
 ·simp at h
 split at h
 ·unfold backL at h
  split at h
  ·rw [List.mem_singleton] at h
   rw [h]
  ·split at h
   ·simp at h
   ·rcases List.mem_append.1 h with h | h
    ·split at h
     ·rw [List.mem_singleton] at h; rw [h]
     ·simp at h
    ·obtain ⟨s, _, rfl⟩ := List.mem_map.1 h
     rfl
 ·split at h
  ·simp at h
  ·split at h
   ·obtain ⟨i, _, rfl⟩ := List.mem_map.1 h
    rfl
   ·simp at h
theorem RchC.alt {g : Gram} {cl : List (List (Int × Int))} {l : List Cfg} {c : Cfg} {P : Int → Prop} (h : RchC g cl l c) (hl : ∀ c ∈ l, P c.alt) : P c.alt := by
 induction h with
 | base h => exact hl _ h
 | step _ k ih => rw [step_alt k]; exact ih
structure BothC (g : Gram) (H : Heap) (deep most : Nat) (l : List Cfg) (pa pb : Option Addr) (A B : List CA) : Prop where
 ra : RN 4 ccell H pa A
 rb : RN 4 ccell H pb B
 xa : ∀ z ∈ A, XC H z
 xb : ∀ z ∈ B, XD H z
 eq : A.map (·.1) = B.map (·.1)
 srt : Srt A
 len : A.length ≤ most
 dp : ∀ z ∈ A, z.1.stack.length ≤ deep
 rch : ∀ z ∈ A, RchC g (callsL g) l z.1
end Go.Proofs.Ytfbdababcdfjfaa

namespace Go.Proofs.Ytfbdababcdfjfaa
open Go.AM Go.AM.Fo
set_option maxRecDepth 100000
inductive Ac (g : Gram) : Cfg → List Int → Prop where
 | fin {c : Cfg} (h : c.rule = -1) : Ac g c []
 | step {c d : Cfg} {u : List Int} (h : d ∈ stepL g (callsL g) c) (k : Ac g d u) : Ac g c u
 | read {c : Cfg} {t : Int} {u : List Int} (h0 : 0 ≤ t) (h : nextL g c = t) (k : Ac g (mvC c) u) : Ac g c (t :: u)
theorem Ac.run {g : Gram} {c : Cfg} {u : List Int} (h : Ac g c u) : ∃ c', (∀ l, RchC g (callsL g) l c → RchC g (callsL g) l c') ∧ c'.alt = c.alt ∧ ((u = [] ∧ nextL g c' = -1) ∨ ∃ t u', u = t :: u' ∧ 0 ≤ t ∧ nextL g c' = t ∧ Ac g (mvC c') u') := by
 induction h with
 | @fin c h => exact ⟨c, fun _ h => h, rfl, .inl ⟨rfl, by unfold nextL; rw [if_pos (by omega)]⟩⟩
 | step h _ ih =>
  obtain ⟨c', h1, h2, h3⟩ := ih
  exact ⟨c', fun l hl => h1 l (.step hl h), h2.trans (step_alt h), h3⟩
 | @read c t u h0 h k _ => exact ⟨c, fun _ h => h, rfl, .inr ⟨t, u, rfl, h0, h, k⟩⟩
variable {g : Gram}
theorem rgt_eq {r : Nat} (h : r < g.rules.length) : rgt g r = g.rules[r].right := by unfold rgt; rw [List.getElem?_eq_getElem h]; rfl
theorem lft_eq {r : Nat} (h : r < g.rules.length) : lft g r = g.rules[r].left := by unfold lft; rw [List.getElem?_eq_getElem h]; rfl
theorem rule_get {r : Nat} (h : r < g.rules.length) : g.rules[((r : Nat) : Int).toNat]? = some g.rules[r] := by rw [Int.toNat_natCast, List.getElem?_eq_getElem h]
theorem step_in {a : Int} {r i k : Nat} {st : List (Int × Int)} (hr : r < g.rules.length) (hi : i < (rgt g r).length) (hk : k < g.rules.length) (h0 : 0 ≤ lft g k) (h : (rgt g r)[i] = lft g k) :
  (⟨a, (k : Nat), 0, if st = [] ∨ i + 1 < (rgt g r).length then st ++ [((r : Int), ((i + 1 : Nat) : Int))] else st⟩ : Cfg) ∈ stepL g (callsL g) ⟨a, (r : Nat), (i : Nat), st⟩ := by
 have hR := rgt_eq hr
 have hi' : i < g.rules[r].right.length := by rw [← hR]; exact hi
 have hs : g.rules[r].right[i]? = some (lft g k) := by
  rw [← h, ← hR]; exact List.getElem?_eq_getElem hi
 unfold stepL
 rw [if_neg (by show ¬ ((r : Nat) : Int) < 0; omega)]
 simp only [rule_get hr]
 rw [if_neg (by omega)]
 simp only [Int.toNat_natCast, hs]
 rw [if_pos h0]
 refine List.mem_map.2 ⟨k, ?_, ?_⟩
 ·unfold ruleIx
  rw [List.mem_filter, List.mem_range]
  refine ⟨hk, ?_⟩
  rw [List.getElem?_eq_getElem hk, lft_eq hk]
  simp
 ·unfold stkL
  rw [hR]
  simp only
  by_cases hc : st = [] ∨ i + 1 < g.rules[r].right.length
  ·rw [if_pos hc, if_pos (by rcases hc with h | h; exact .inl h; exact .inr (by omega))]
   rfl
  ·rw [if_neg hc, if_neg (by rintro (h | h); exact hc (.inl h); exact hc (.inr (by omega)))]
theorem step_pop {a : Int} {r : Nat} {st : List (Int × Int)} {s : Int × Int} (hr : r < g.rules.length) : (⟨a, s.1, s.2, st⟩ : Cfg) ∈ stepL g (callsL g) ⟨a, (r : Nat), ((rgt g r).length : Nat), st ++ [s]⟩ := by
 unfold stepL
 rw [if_neg (by show ¬ ((r : Nat) : Int) < 0; omega)]
 simp only [rule_get hr]
 rw [if_pos (by rw [rgt_eq hr])]
 unfold backL
 simp
theorem step_end {a : Int} {r : Nat} (hr : r < g.rules.length) (h0 : lft g r = 0) : (⟨a, -1, 0, []⟩ : Cfg) ∈ stepL g (callsL g) ⟨a, (r : Nat), ((rgt g r).length : Nat), []⟩ := by
 unfold stepL
 rw [if_neg (by show ¬ ((r : Nat) : Int) < 0; omega)]
 simp only [rule_get hr]
 rw [if_pos (by rw [rgt_eq hr])]
 unfold backL
 simp only [List.getLast?_nil, rule_get hr]
 rw [lft_eq hr] at h0
 rw [if_pos h0]
 simp
theorem step_call {a : Int} {r k j : Nat} (hr : r < g.rules.length) (hv : 0 ≤ lft g r ∧ lft g r < g.vars.length) (hk : k < g.rules.length) (hj : j < (rgt g k).length) (h : (rgt g k)[j] = lft g r) : (⟨a, (k : Nat), ((j + 1 : Nat) : Int), []⟩ : Cfg) ∈ stepL g (callsL g) ⟨a, (r : Nat), ((rgt g r).length : Nat), []⟩ := by
  unfold stepL
  rw [if_neg (by show ¬ ((r : Nat) : Int) < 0; omega)]
  simp only [rule_get hr]
  rw [if_pos (by rw [rgt_eq hr])]
  unfold backL
  simp only [List.getLast?_nil, rule_get hr]
  rw [lft_eq hr] at hv h
  refine List.mem_append_right _ (List.mem_map.2 ⟨((k : Int), ((j + 1 : Nat) : Int)), ?_, rfl⟩)
  unfold callsL
  rw [List.getD_eq_getElem?_getD, List.getElem?_map, List.getElem?_range (by omega)]
  show _ ∈ callsN g g.rules.length g.rules[r].left.toNat
  unfold callsN
  refine List.mem_flatMap.2 ⟨k, List.mem_range.2 hk, ?_⟩
  simp only [List.getElem?_eq_getElem hk]
  unfold rowT
  refine List.mem_filterMap.2 ⟨j, ?_, ?_⟩
  · rw [List.mem_range, ← rgt_eq hk]; exact hj
  · have e : g.rules[k].right[j]? = some (g.rules[r].left) := by
      rw [← h, List.getElem?_eq_getElem (by rw [← rgt_eq hk]; exact hj)]
      simp only [rgt_eq hk]
    rw [e, if_pos (by congr 1; omega)]
theorem next_term {a s : Int} {r i : Nat} {st : List (Int × Int)} (hr : r < g.rules.length) (hi : i < (rgt g r).length) (h : (rgt g r)[i] = s) (hs : s < 0) : nextL g ⟨a, (r : Nat), (i : Nat), st⟩ = -s - 1 := by
 have hi' : i < g.rules[r].right.length := by rw [← rgt_eq hr]; exact hi
 have hs' : g.rules[r].right[i]? = some s := by
  rw [← h, List.getElem?_eq_getElem hi']
  simp only [rgt_eq hr]
 unfold nextL
 rw [if_neg (by show ¬ ((r : Nat) : Int) < 0; omega)]
 simp only [rule_get hr]
 rw [if_neg (by omega)]
 simp only [Int.toNat_natCast, hs']
 rw [if_neg (by omega)]
def Rt (g : Gram) (a : Int) (r : Nat) (st : List (Int × Int)) (v : List Int) : Prop :=
 (st = [] ∧ Ac g ⟨a, (r : Nat), ((rgt g r).length : Nat), []⟩ v) ∨ ∃ st0 s, st = st0 ++ [s] ∧ Ac g ⟨a, s.1, s.2, st0⟩ v
theorem ac_rule (hg : InG g) {f d u : List Int} (h : Dv g f d u) : ∀ (a : Int) (r i : Nat) (st : List (Int × Int)) (v : List Int), r < g.rules.length → i ≤ (rgt g r).length → f = (rgt g r).drop i → Rt g a r st v → Ac g ⟨a, (r : Nat), (i : Nat), st⟩ (u ++ v) := by
 induction h with
 | nil =>
  intro a r i st v hr hi hf hv
  have hil : i = (rgt g r).length := by
   have := congrArg List.length hf
   rw [List.length_drop] at this
   simp at this; omega
  subst hil
  rcases hv with ⟨rfl, hv⟩ | ⟨st0, s, rfl, hv⟩
  ·exact hv
  ·exact .step (step_pop hr) hv
 | @term s l d w hs k ih =>
  intro a r i st v hr hi hf hv
  have hil : i < (rgt g r).length := by
   apply Classical.byContradiction
   intro hc
   rw [List.drop_of_length_le (by omega)] at hf
   cases hf
  rw [List.drop_eq_getElem_cons hil] at hf
  obtain ⟨e1, e2⟩ := List.cons.inj hf
  refine .read (by omega) (next_term hr hil e1.symm hs) ?_
  have := ih a r (i + 1) st v hr hil e2 hv
  exact this
 | @var k l d1 d2 w1 w2 hk x y ihx ihy =>
  intro a r i st v hr hi hf hv
  have hil : i < (rgt g r).length := by
   apply Classical.byContradiction
   intro hc
   rw [List.drop_of_length_le (by omega)] at hf
   cases hf
  rw [List.drop_eq_getElem_cons hil] at hf
  obtain ⟨e1, e2⟩ := List.cons.inj hf
  have h0 : 0 ≤ lft g k := by rw [lft_eq hk]; exact hg.left0 _ (List.getElem_mem hk)
  refine .step (step_in hr hil hk h0 e1.symm) ?_
  rw [List.append_assoc]
  by_cases hc : st = [] ∨ i + 1 < (rgt g r).length
  ·rw [if_pos hc]
   exact ihx a k 0 _ _ hk (Nat.zero_le _) (by rw [List.drop_zero]) (.inr ⟨st, _, rfl, ihy a r (i + 1) st v hr hil e2 hv⟩)
  ·rw [if_neg hc]
   have hl : l = [] := by rw [e2]; exact List.drop_of_length_le (by omega)
   rw [hl] at y
   obtain ⟨_, rfl⟩ := y.nil_inv
   rcases hv with ⟨h, _⟩ | ⟨st0, s, h, hv⟩
   ·exact absurd (.inl h) hc
   ·exact ihx a k 0 _ _ hk (Nat.zero_le _) (by rw [List.drop_zero]) (.inr ⟨st0, s, h, hv⟩)
inductive Cx (g : Gram) : Int → List Int → Prop where
 | root : Cx g 0 []
 | sub {k j : Nat} {F : List Int} (hk : k < g.rules.length) (hj : j < (rgt g k).length) (h : Cx g (lft g k) F) : Cx g (rgt g k)[j] ((rgt g k).drop (j + 1) ++ F)
theorem ac_end (hg : InG g) {A : Int} {F : List Int} (h : Cx g A F) : ∀ (d y : List Int), Dv g F d y → ∀ (a : Int) (r : Nat), r < g.rules.length → lft g r = A → Ac g ⟨a, (r : Nat), ((rgt g r).length : Nat), []⟩ y := by
 induction h with
 | root =>
  intro d y hd a r hr hl
  obtain ⟨_, rfl⟩ := hd.nil_inv
  exact .step (step_end hr hl) (.fin rfl)
 | @sub k j F hk hj h ih =>
  intro d y hd a r hr hl
  obtain ⟨d1, d2, y1, y2, rfl, rfl, h1, h2⟩ := hd.split rfl
  refine .step (step_call hr ⟨?_, ?_⟩ hk hj hl.symm) ?_
  ·rw [lft_eq hr]; exact hg.left0 _ (List.getElem_mem hr)
  ·rw [lft_eq hr]; exact hg.left1 _ (List.getElem_mem hr)
  ·exact ac_rule hg h1 a k (j + 1) [] y2 hk hj rfl (.inl ⟨rfl, ih d2 y2 h2 a k hk rfl⟩)
def CxF (g : Gram) (f : List Int) : Prop := ∀ (p : List Int) (A : Int) (F : List Int), f = p ++ A :: F → 0 ≤ A → Cx g A F
theorem CxF.step (hg : InG g) {f f' : List Int} {r : Int} (h : CxF g f) (hs : stepS g f r = (f', 0)) : CxF g f' := by
 obtain ⟨i, hi, t, rest, rfl, rfl, rfl, ht⟩ := stepS_ok hs
 have h0 := hg.left0 _ (List.getElem_mem hi)
 have hc := h t _ rest rfl h0
 intro p A F e hA
 rw [List.append_assoc] at e
 have key : ∃ q, p = t ++ q ∧ g.rules[i].right ++ rest = q ++ A :: F := by
  rcases List.append_eq_append_iff.1 e with ⟨q, e1, e2⟩ | ⟨q, e1, e2⟩
  ·exact ⟨q, e1, e2⟩
  ·cases q with
   | nil => exact ⟨[], by rw [e1]; simp, by simpa using e2.symm⟩
   | cons b q =>
    rw [List.cons_append] at e2
    obtain ⟨rfl, _⟩ := List.cons.inj e2
    have := ht A (by rw [e1]; simp)
    omega
 obtain ⟨q, e1, e2⟩ := key
 rcases List.append_eq_append_iff.1 e2 with ⟨m, e3, e4⟩ | ⟨m, e3, e4⟩
 ·exact h (t ++ g.rules[i].left :: m) A F (by rw [e4]; simp) hA
 ·cases m with
  | nil =>
   refine h (t ++ g.rules[i].left :: []) A F ?_ hA
   have : rest = A :: F := by simpa using e4.symm
   rw [this]; simp
  | cons b m =>
   rw [List.cons_append] at e4
   obtain ⟨rfl, rfl⟩ := List.cons.inj e4
   have hR := rgt_eq hi
   have hj : q.length < (rgt g i).length := by rw [hR, e3]; simp
   have hx := Cx.sub hi hj (by rw [lft_eq hi]; exact hc)
   have e5 : (rgt g i)[q.length] = A := by simp only [hR, e3]; simp
   have e6 : (rgt g i).drop (q.length + 1) = m := by rw [hR, e3]; simp
   rw [e5, e6] at hx
   exact hx
theorem CxF.replay (hg : InG g) : ∀ (t f : List Int) (k : Nat) {f' : List Int} {q : Nat}, CxF g f → replayS g f t k = (f', q, 0) → CxF g f'
 | [], f, k, f', q, h, hr => by
  simp [replayS] at hr
  obtain ⟨rfl, _⟩ := hr
  exact h
 | r :: t, f, k, f', q, h, hr => by
  simp only [replayS] at hr
  split at hr
  ·rename_i he
   exact CxF.replay hg t _ _ (CxF.step hg h (f' := (stepS g f r).1) (by rw [← he])) hr
  ·rename_i he
   simp at hr
   omega
theorem CxF.root : CxF g [0] := by
 intro p A F e hA
 cases p with
 | nil =>
  obtain ⟨rfl, rfl⟩ := List.cons.inj e
  exact .root
 | cons b p => simp at e
theorem replay_pre : ∀ (a f : List Int) (b : List Int) (k : Nat) {f' : List Int} {q : Nat}, replayS g f (a ++ b) k = (f', q, 0) → ∃ F q, replayS g f a k = (F, q, 0)
 | [], f, b, k, _, _, _ => ⟨f, 0, rfl⟩
 | r :: a, f, b, k, f', q, h => by
  rw [List.cons_append] at h
  simp only [replayS] at h ⊢
  split at h
  ·rename_i he
   rw [if_pos he]
   exact replay_pre a _ b _ h
  ·rename_i he
   simp at h
   omega
theorem keeps_first (hg : InG g) {d w F : List Int} {at_ q : Nat} (hd : Dv g [0] d w) (hlt : at_ < d.length) (hf : replayS g [0] (d.take at_) 0 = (F, q, 0)) :
  ∃ (r : Nat) (w' : List Int), r < g.rules.length ∧ d[at_] = r ∧ w = trm (F.takeWhile AM.neg) ++ w' ∧ Ac g ⟨(r : Nat), (r : Nat), ((0 : Nat) : Int), []⟩ w' := by
 have hsp : d = d.take at_ ++ d[at_] :: d.drop (at_ + 1) := by
  rw [← List.drop_eq_getElem_cons hlt, List.take_append_drop]
 rw [hsp] at hd
 have h1 := dv_rest hg hf hd
 obtain ⟨i, u, X, hi, e1, e2, hu⟩ := dv_next hg h1
 have h0 : 0 ≤ lft g i := by rw [lft_eq hi]; exact hg.left0 _ (List.getElem_mem hi)
 have htw : F.takeWhile AM.neg = u := by
  rw [e2, List.takeWhile_append_of_pos (fun s hs => by unfold AM.neg; simpa using hu s hs)]
  have : (lft g i :: X).takeWhile AM.neg = [] := by
   rw [List.takeWhile_cons]
   have : AM.neg (lft g i) = false := by unfold AM.neg; simpa using h0
   rw [this]; rfl
  rw [this, List.append_nil]
 rw [e2] at h1
 obtain ⟨d1, d2, w1, w2, e3, e4, h2, h3⟩ := h1.split rfl
 obtain ⟨rfl, rfl⟩ := dv_terms_eq hg hu h2
 rw [List.nil_append] at e3
 rw [← e3] at h3
 obtain ⟨i', x1, x2, y1, y2, hi', e5, e6, rfl, h4, h5⟩ := h3.var_inv h0
 have hii : i' = i := by
  have := (List.cons.inj e6).1
  rw [e1] at this
  omega
 subst hii
 have hcx := CxF.replay hg _ _ 0 CxF.root hf
 have hC := hcx u _ X e2 h0
 refine ⟨i', y1 ++ y2, hi, e1, by rw [htw]; exact e4, ?_⟩
 exact ac_rule hg h4 i' i' 0 [] y2 hi (Nat.zero_le _) (by rw [List.drop_zero]) (.inl ⟨rfl, ac_end hg hC _ _ h5 i' i' hi rfl⟩)
end Go.Proofs.Ytfbdababcdfjfaa

namespace Go.Proofs.Ytfbdababcdfjfaa
open Go.AM
set_option maxRecDepth 100000
theorem WK.frame {P : Program} {c : Code} {K : List Fk} {n : Nat} {H : Heap} {Q : AExit → St → Prop} {f0 : Fr} (R : Fr → Prop) (h0 : R f0) (h : ∀ f, R f → WK P c K ⟨f, n, H⟩ Q) : WK P c K ⟨f0, n, H⟩ Q := h f0 h0
def AltOK (g : Gram) (c : Cfg) : Prop := 0 ≤ c.alt ∧ c.alt < g.rules.length
end Go.Proofs.Ytfbdababcdfjfaa

namespace Go.Proofs.Ytfbdababcdfjfaa
open Go.AM
set_option maxRecDepth 100000
def IL (n0 : Nat) (H : Heap) (r : Nat) (v : Value) (l : List Int) : Prop :=
 (v = .slice none 0 0 ∧ l = []) ∨ ∃ y cs, v = .slice (some ⟨y, 0, none⟩) l.length l.length ∧ H y = .cells cs 3 true ∧ cs.take l.length = l.map (Value.int .i64) ∧ n0 ≤ y ∧ y ≠ r
def rcells (pt pv pr : Option Addr) (g : Gram) (vd vl : Value) : List Value := [.slice pt g.terms.length g.terms.length, .slice pv g.vars.length g.vars.length, .slice pr g.rules.length g.rules.length, vd, vl]
def apart (vd vl : Value) : Prop := ∀ y z m k, vd = .slice (some ⟨y, 0, none⟩) m m → vl = .slice (some ⟨z, 0, none⟩) k k → y ≠ z
def Runs (n0 : Nat) (H : Heap) (r : Nat) (pt pv pr : Option Addr) (g : Gram) (done left : List Int) : Prop :=
 ∃ vd vl, H r = .cells (rcells pt pv pr g vd vl) 128 true ∧ IL n0 H r vd done ∧ IL n0 H r vl left ∧ apart vd vl
theorem IL.keep {n0 : Nat} {H H' : Heap} {r : Nat} {v : Value} {l : List Int} (h : IL n0 H r v l) (hk : ∀ y m, v = .slice (some ⟨y, 0, none⟩) m m → H y ≠ .dead → y ≠ r → H' y = H y) : IL n0 H' r v l := by
 rcases h with h | ⟨y, cs, e1, e2, e3, e4, e5⟩
 ·exact .inl h
 ·exact .inr ⟨y, cs, e1, by rw [hk y _ e1 (by rw [e2]; intro e; cases e) e5, e2], e3, e4, e5⟩
theorem IL.grown {n0 : Nat} {H' : Heap} {r y : Nat} {l : List Int} {s : Int} (hy : H' y = .cells (l.map (Value.int .i64) ++ [.int .i64 s]) 3 true) (hn : n0 ≤ y) (hr : y ≠ r) : IL n0 H' r (.slice (some ⟨y, 0, none⟩) (l.length + 1) (l.length + 1)) (l ++ [s]) := by
 refine .inr ⟨y, _, by rw [List.length_append]; rfl, hy, ?_, hn, hr⟩
 rw [List.map_append]
 exact List.take_of_length_le (by simp)
set_option maxHeartbeats 8000000 in
theorem lay_gives {n0 r : Nat} {pt pv pr p : Option Addr} {g : Gram} {done left form : List Int} {H0 H : Heap} {n : Nat} (hw0 : WF n0 H0) (k0 : Kp n0 H0 n H) (hr0 : n0 ≤ r) (hr : Runs n0 H r pt pv pr g done left) (hp : RA (Value.int .i64) H0 p form)
    (hd : ∀ s ∈ done, s < 0) (hsz : done.length + left.length + form.length ≤ 2147483648) :
    GivesX Try.prog (fun z => n0 ≤ z) 79 [.pointer (some ⟨r, 0, none⟩), .slice p form.length form.length] n H fun _ _ H' => Runs n0 H' r pt pv pr g (layS done (form ++ left.reverse)).1 (layS done (form ++ left.reverse)).2.reverse := by
  refine GivesX.of orders ok79 (Nat.le_of_ble_eq_true rfl) ?_
  have hlw : IntKind.i64.wrap ((form.length : Int) - 1) = (form.length : Int) - 1 := wrap_in (by omega) (by omega)
  repeat (first | refine qqm rfl ?_ | ((first | refine qqr ?_ | refine qqt ?_); simp only [SS, qx31, vun, simprocAttr, hlw, ff_79]))
  refine WK.loop (fun k s => ∃ (j : Nat) (left1 : List Int), Kp n0 H0 s.n s.H ∧ s.f 0 = .pointer (some ⟨r, 0, none⟩) ∧ s.f 1 = .slice p form.length form.length ∧ Runs n0 s.H r pt pv pr g done left1 ∧ left1 = left ++ form.reverse.take j ∧ s.f 4 = .int .i64 ((form.length : Int) - 1 - j) ∧ j ≤ form.length ∧ k = form.length - j) form.length ?_ ?_
  · exact ⟨0, left, k0, rfl, rfl, hr, by simp, by show Value.int .i64 ((form.length : Int) - 1) = _; simp, Nat.zero_le _, rfl⟩
  have k00 := k0
  clear hr k0
  rintro kk ⟨f, n1, H1⟩ ⟨j, left1, kp, f0, f1, hr, hl1, f4, hj, rfl⟩ ih
  simp only at f0 f1 f4 ih kp hr
  have hw1 := kp.wf hw0
  obtain ⟨vd, vl, hro, hvd, hvl, hap⟩ := hr
  have hrl := live_lt hw1 (live_of hro)
  have hll1 : left1.length = left.length + j := by rw [hl1]; simp; omega
  by_cases hjl : j < form.length
  · have hge : (0 ≤ (form.length : Int) - 1 - j) = True := by simp; omega
    obtain ⟨i, hi⟩ : ∃ i : Nat, (form.length : Int) - 1 - j = i := ⟨form.length - 1 - j, by omega⟩
    have hil : i < form.length := by omega
    have hi0 : (0 ≤ (i : Int)) = True := by simp
    have hiw : IntKind.i64.wrap ((i : Int) - 1) = (form.length : Int) - 1 - ((j + 1 : Nat) : Int) := by rw [wrap_in (by omega) (by omega)]; omega
    rw [hi] at f4
    have hp1 := hp.mono hw0 kp
    obtain ⟨z, kz, ds, tz, oz, rfl, hz, ez⟩ := hp1.at hil
    have hrev : form.reverse.take (j + 1) = form.reverse.take j ++ [form[i]] := by
      rw [List.take_succ_eq_append_getElem (by simpa using hjl), List.getElem_reverse]
      congr 3
      omega
    have hr1 : ∀ o, hset H1 n1 o r = _ := fun o => (hset_ne _ _ _ (by omega)).trans hro
    have hzn : z ≠ n1 := by have := live_lt hw1 (live_of hz); omega
    have b1 : left1.length + 1 ≤ bigN := by unfold bigN; omega
    rcases hvl with ⟨rfl, hle⟩ | ⟨y, cs, rfl, hy, htk, hny, hyr⟩
    · have hr2 : ∀ o o2, hset (hset H1 n1 o) (n1 + 1) o2 r = _ := fun o o2 => (hset_ne _ _ _ (by omega)).trans ((hset_ne _ _ _ (by omega)).trans hro)
      have hrs : ∀ v, (rcells pt pv pr g vd (.slice none 0 0)).set 4 v = rcells pt pv pr g vd v := fun v => rfl
      have hr4 : (rcells pt pv pr g vd (.slice none 0 0))[4]? = some (.slice none 0 0) := rfl
      have hrlen : (rcells pt pv pr g vd (.slice none 0 0)).length = 5 := rfl
      repeat (first | refine qqm rfl ?_ | ((first | refine qqr ?_ | refine qqt ?_); simp only [SS, qx31, vun, simprocAttr, f0, f1, f4, hi0, aop_nc, tnc, hro, hr4, hrlen, hz, ez, hil, ebs_26_1, hr2, hrs, ff_79]))
      refine ih (form.length - (j + 1)) (by omega) _ ⟨j + 1, left1 ++ [form[i]], ((kp.trans (Kp.new n1 H1 _)).trans (Kp.new (n1 + 1) _ _)).set _ hr0 (by omega), f0, f1, ⟨vd, .slice (some ⟨n1 + 1, 0, none⟩) 1 1, hset_at _ _ _, ?_, ?_, ?_⟩, by rw [hl1, hrev, List.append_assoc], ?_, hjl, rfl⟩
      · refine hvd.keep fun y m e hl hyr => ?_
        have := live_lt hw1 hl
        exact (hset_ne _ _ _ hyr).trans ((hset_ne _ _ _ (by omega)).trans (hset_ne _ _ _ (by omega)))
      · rw [hle]
        exact IL.grown (l := []) ((hset_ne _ _ _ (by omega)).trans (hset_at _ _ _)) (by have := kp.le; omega) (by omega)
      · intro y z' m k e1 e2
        simp only [Value.slice.injEq, Option.some.injEq, Addr.mk.injEq] at e2
        rcases hvd with ⟨h, _⟩ | ⟨y', cs', h, hy', _⟩
        · rw [h] at e1; simp at e1
        · rw [h] at e1
          simp only [Value.slice.injEq, Option.some.injEq, Addr.mk.injEq] at e1
          have := live_lt hw1 (live_of hy')
          omega
      · simp only [packed, qv, Nat.reduceEqDiff, ↓reduceIte, hiw, ff_79]
    · have hlp : left1.length ≤ cs.length := by
        have := congrArg List.length htk
        rw [List.length_take, List.length_map] at this; omega
      have hyl := live_lt hw1 (live_of hy)
      have hy1 : ∀ o, hset H1 n1 o y = _ := fun o => (hset_ne _ _ _ (by omega)).trans hy
      have hct : [n1].contains y = false := by simp; omega
      have hr2 : ∀ o o2 o3, hset (hset (hset H1 n1 o) y o2) (n1 + 1) o3 r = _ := fun o o2 o3 => (hset_ne _ _ _ (by omega)).trans ((hset_ne _ _ _ (Ne.symm hyr)).trans ((hset_ne _ _ _ (by omega)).trans hro))
      have hrs : ∀ v, (rcells pt pv pr g vd (.slice (some ⟨y, 0, none⟩) left1.length left1.length)).set 4 v = rcells pt pv pr g vd v := fun v => rfl
      have hr4 : (rcells pt pv pr g vd (.slice (some ⟨y, 0, none⟩) left1.length left1.length))[4]? = some (.slice (some ⟨y, 0, none⟩) left1.length left1.length) := rfl
      have hrlen : (rcells pt pv pr g vd (.slice (some ⟨y, 0, none⟩) left1.length left1.length)).length = 5 := rfl
      repeat (first | refine qqm rfl ?_ | ((first | refine qqr ?_ | refine qqt ?_); simp only [SS, qx31, vun, simprocAttr, f0, f1, f4, hi0, aop_nc, tnc, hro, hr4, hrlen, hz, ez, hil, ebs_26_1, hy1, hct, b1, hlp, htk, List.drop_zero, hr2, hrs, ff_79]))
      refine ih (form.length - (j + 1)) (by omega) _ ⟨j + 1, left1 ++ [form[i]], (((kp.trans (Kp.new n1 H1 _)).set _ hny (by omega)).trans (Kp.new (n1 + 1) _ _)).set _ hr0 (by omega), f0, f1, ⟨vd, .slice (some ⟨n1 + 1, 0, none⟩) (left1.length + 1) (left1.length + 1), hset_at _ _ _, ?_, ?_, ?_⟩, by rw [hl1, hrev, List.append_assoc], ?_, hjl, rfl⟩
      · refine hvd.keep fun w m e hl hwr => ?_
        have := live_lt hw1 hl
        have hne : w ≠ y := by
          have hm : m = done.length := by
            rcases hvd with ⟨h, _⟩ | ⟨y', cs', h, _⟩
            · rw [h] at e; simp at e
            · rw [h] at e; simp only [Value.slice.injEq] at e; exact e.2.1.symm
          exact hap w y m left1.length e rfl
        exact (hset_ne _ _ _ hwr).trans ((hset_ne _ _ _ (by omega)).trans ((hset_ne _ _ _ hne).trans (hset_ne _ _ _ (by omega))))
      · exact IL.grown ((hset_ne _ _ _ (by omega)).trans (hset_at _ _ _)) (by have := kp.le; omega) (by omega)
      · intro w z' m k e1 e2
        simp only [Value.slice.injEq, Option.some.injEq, Addr.mk.injEq] at e2
        rcases hvd with ⟨h, _⟩ | ⟨y', cs', h, hy', _⟩
        · rw [h] at e1; simp at e1
        · rw [h] at e1
          simp only [Value.slice.injEq, Option.some.injEq, Addr.mk.injEq] at e1
          have := live_lt hw1 (live_of hy')
          omega
      · simp only [packed, qv, Nat.reduceEqDiff, ↓reduceIte, hiw, ff_79]
  · have hje : j = form.length := by omega
    subst hje
    have hlt : ((form.length : Int) - 1 - form.length) = -1 := by omega
    rw [hlt] at f4
    have hm1 : ((0 : Int) ≤ -1) = False := by simp
    repeat (first | refine qqm rfl ?_ | ((first | refine qqr ?_ | refine qqt ?_); simp only [SS, qx31, vun, simprocAttr, f4, hm1, ff_79]))
    rw [List.take_of_length_le (by simp)] at hl1
    obtain ⟨Q, hQ⟩ : ∃ Q, form ++ left.reverse = Q := ⟨_, rfl⟩
    have hQl : Q.length = form.length + left.length := by rw [← hQ]; simp
    have hl1Q : left1 = Q.reverse := by rw [hl1, ← hQ]; simp
    rw [hQ]
    have hap' := hap
    refine WK.loop (fun k s => ∃ m, Kp n0 H0 s.n s.H ∧ s.f 0 = .pointer (some ⟨r, 0, none⟩) ∧ Runs n0 s.H r pt pv pr g (done ++ Q.take m) (Q.drop m).reverse ∧ m ≤ Q.length ∧ (∀ s ∈ Q.take m, s < 0) ∧ k = Q.length - m) Q.length ?_ ?_
    · exact ⟨0, kp, f0, ⟨vd, vl, hro, by simpa using hvd, by rw [List.drop_zero, ← hl1Q]; exact hvl, hap⟩, Nat.zero_le _, by simp, rfl⟩
    clear hap hap' hvl hvd hro hrl hll1 hl1 f0 f1 f4 kp hw1 ih hl1Q
    rintro kk ⟨f, n1, H1⟩ ⟨m, kp, f0, hr, hm, hneg, rfl⟩ ih
    simp only at f0 ih kp hr
    have hw1 := kp.wf hw0
    obtain ⟨vd, vl, hro, hvd, hvl, hap⟩ := hr
    have hrl := live_lt hw1 (live_of hro)
    have hr4 : (rcells pt pv pr g vd vl)[4]? = some vl := rfl
    have hr3 : (rcells pt pv pr g vd vl)[3]? = some vd := rfl
    have hrlen : ∀ a b, (rcells pt pv pr g a b).length = 5 := fun _ _ => rfl
    by_cases hml : m < Q.length
    · have hdrop : Q.drop m = Q[m] :: Q.drop (m + 1) := List.drop_eq_getElem_cons hml
      obtain ⟨s, hs⟩ : ∃ s, Q[m] = s := ⟨_, rfl⟩
      have hll : (Q.drop m).reverse = (Q.drop (m + 1)).reverse ++ [s] := by rw [hdrop, List.reverse_cons, hs]
      obtain ⟨L, hL⟩ : ∃ L, (Q.drop (m + 1)).reverse.length = L := ⟨_, rfl⟩
      have hLQ : L = Q.length - (m + 1) := by rw [← hL]; simp
      rw [hll] at hvl
      rcases hvl with ⟨_, h⟩ | ⟨y, cs, rfl, hy, htk, hny, hyr⟩
      · simp at h
      have hlen : ((Q.drop (m + 1)).reverse ++ [s]).length = L + 1 := by rw [List.length_append, hL]; rfl
      rw [hlen] at hr4 hr3 htk hap hro
      have hyl := live_lt hw1 (live_of hy)
      have hcs : cs[L]? = some (.int .i64 s) := by
        have h1 : (cs.take (L + 1))[L]? = some (.int .i64 s) := by
          rw [htk, List.map_append, List.getElem?_append_right (by rw [List.length_map, hL]; exact Nat.le_refl _), List.length_map, hL]
          simp
        rw [List.getElem?_take] at h1
        simpa using h1
      have hcl : L + 1 ≤ cs.length := by
        have := congrArg List.length htk
        rw [List.length_take, List.length_map, hlen] at this; omega
      have h0 : (0 : Int) < ((L + 1 : Nat) : Int) := by omega
      have hw0' : IntKind.i64.wrap (((L + 1 : Nat) : Int) - 1) = ((L : Nat) : Int) := by rw [wrap_in (by omega) (by omega)]; omega
      repeat (first | refine qqm rfl ?_ | ((first | refine qqr ?_ | refine qqt ?_); simp only [SS, qx31, vun, simprocAttr, f0, aop_nc, tnc, hro, hr4, h0, hw0', hy, hcs, Nat.lt_succ_self, Nat.le_succ, ff_79]))
      refine AtCall.by (isVar_gives _ _ _) ?_
      rintro v n2 H2 hk2 ⟨rfl, rfl, rfl⟩
      by_cases hv : 0 ≤ s
      · simp only [SS, qx31, vun, simprocAttr, hv, ff_79]
        repeat (first | refine qqm rfl ?_ | ((first | refine qqr ?_ | refine qqt ?_); simp only [SS, qx31, vun, simprocAttr, ff_79]))
        obtain ⟨e1, e2⟩ := tw_at hml hneg (by rw [hs]; exact hv)
        refine WK.skipNil ⟨Or.inl rfl, _, rfl, fun x _ hX => (kp.keep x (by omega)).trans (k00.keep x (by omega)).symm, vd, _, hro, ?_, ?_, hap⟩
        · unfold layS
          rw [e1]; exact hvd
        · unfold layS
          rw [e2, ← hdrop, hll]
          exact .inr ⟨y, cs, by rw [hlen], hy, by rw [hlen]; exact htk, hny, hyr⟩
      · simp only [SS, qx31, vun, simprocAttr, hv, ff_79]
        repeat refine qqn rfl ?_
        refine qqm rfl ?_
        repeat refine qqn rfl ?_
        have hdl : (done ++ Q.take m).length = done.length + m := by rw [List.length_append, List.length_take, Nat.min_eq_left hm]
        have hneg' : ∀ t ∈ Q.take (m + 1), t < 0 := by
          intro t ht
          rw [List.take_succ_eq_append_getElem hml, List.mem_append] at ht
          rcases ht with ht | ht
          · exact hneg t ht
          · simp at ht; omega
        have htake : done ++ Q.take (m + 1) = (done ++ Q.take m) ++ [s] := by rw [List.take_succ_eq_append_getElem hml, hs, List.append_assoc]
        have hr5 : ∀ o, hset H2 n2 o r = _ := fun o => (hset_ne _ _ _ (by omega)).trans hro
        have hkeepL : ∀ (H' : Heap), H' y = H2 y → IL n0 H' r (.slice (some ⟨y, 0, none⟩) L L) (Q.drop (m + 1)).reverse := fun H' e => by
          refine .inr ⟨y, cs, by rw [hL], e.trans hy, ?_, hny, hyr⟩
          have h1 := congrArg (List.take L) htk
          rw [List.take_take, Nat.min_eq_left (Nat.le_succ _), List.map_append, List.take_left' (by rw [List.length_map, hL])] at h1
          rw [hL]; exact h1
        rcases hvd with ⟨rfl, hde⟩ | ⟨w, ds, rfl, hw', hwt, hnw, hwr⟩
        · have hr6 : ∀ o o2, hset (hset H2 n2 o) (n2 + 1) o2 r = _ := fun o o2 => (hset_ne _ _ _ (by omega)).trans ((hset_ne _ _ _ (by omega)).trans hro)
          have hrs : ∀ v b, (rcells pt pv pr g (.slice none 0 0) b).set 3 v = rcells pt pv pr g v b := fun v b => rfl
          have hrs4 : ∀ v a b, (rcells pt pv pr g a b).set 4 v = rcells pt pv pr g a v := fun v a b => rfl
          have hr44 : ∀ a b, (rcells pt pv pr g a b)[4]? = some b := fun a b => rfl
          have hy7 : ∀ o o2 o3, hset (hset (hset H2 n2 o) (n2 + 1) o2) r o3 y = _ := fun o o2 o3 => (hset_ne _ _ _ hyr).trans ((hset_ne _ _ _ (by omega)).trans ((hset_ne _ _ _ (by omega)).trans hy))
          repeat (first | refine qqm rfl ?_ | ((first | refine qqr ?_ | refine qqt ?_); simp only [SS, qx31, vun, simprocAttr, f0, aop_nc, tnc, hro, hr3, hr44, hrlen, hw0', hy, hcs, Nat.lt_succ_self, Nat.le_succ, ebs_26_1, hr5, hr6, hrs, hrs4, hy7, isz_3, ff_79]))
          refine ih (Q.length - (m + 1)) (by omega) _ ⟨m + 1, ((kp.trans (Kp.new n2 H2 _)).trans (Kp.new (n2 + 1) _ _)).set _ hr0 (by omega), f0, ⟨_, _, hset_at _ _ _, ?_, hkeepL _ (hset_ne _ _ _ hyr |>.trans ((hset_ne _ _ _ (by omega)).trans (hset_ne _ _ _ (by omega)))), ?_⟩, hml, hneg', rfl⟩
          · rw [htake, hde]
            exact IL.grown (l := []) ((hset_ne _ _ _ (by omega)).trans (hset_at _ _ _)) (by have := kp.le; omega) (by omega)
          · intro a b i j e1 e2
            simp only [Value.slice.injEq, Option.some.injEq, Addr.mk.injEq] at e1 e2
            omega
        · rw [hdl] at hr3 hap hwt
          have hwl := live_lt hw1 (live_of hw')
          have hdc : done.length + m ≤ ds.length := by
            have := congrArg List.length hwt
            rw [List.length_take, List.length_map, hdl] at this; omega
          have hwy : w ≠ y := hap w y _ _ rfl rfl
          have hct : [n2].contains w = false := by simp; omega
          have hbg : done.length + m + 1 ≤ bigN := by unfold bigN; omega
          have hw5 : ∀ o, hset H2 n2 o w = _ := fun o => (hset_ne _ _ _ (by omega)).trans hw'
          have hr6 : ∀ o o2 o3, hset (hset (hset H2 n2 o) w o2) (n2 + 1) o3 r = _ := fun o o2 o3 => (hset_ne _ _ _ (by omega)).trans ((hset_ne _ _ _ (Ne.symm hwr)).trans ((hset_ne _ _ _ (by omega)).trans hro))
          have hrs : ∀ v a b, (rcells pt pv pr g a b).set 3 v = rcells pt pv pr g v b := fun v a b => rfl
          have hrs4 : ∀ v a b, (rcells pt pv pr g a b).set 4 v = rcells pt pv pr g a v := fun v a b => rfl
          have hr44 : ∀ a b, (rcells pt pv pr g a b)[4]? = some b := fun a b => rfl
          have hy7 : ∀ o o2 o3 o4, hset (hset (hset (hset H2 n2 o) w o2) (n2 + 1) o3) r o4 y = _ := fun o o2 o3 o4 => (hset_ne _ _ _ hyr).trans ((hset_ne _ _ _ (by omega)).trans ((hset_ne _ _ _ (Ne.symm hwy)).trans ((hset_ne _ _ _ (by omega)).trans hy)))
          rw [hdl] at hro hr6 hr5
          repeat (first | refine qqm rfl ?_ | ((first | refine qqr ?_ | refine qqt ?_); simp only [SS, qx31, vun, simprocAttr, f0, aop_nc, tnc, hro, hr3, hr44, hrlen, hw0', hy, hcs, Nat.lt_succ_self, Nat.le_succ, ebs_26_1, hr5, hr6, hw5, hct, hbg, hdc, hwt, List.drop_zero, hrs, hrs4, hy7, isz_3, ff_79]))
          refine ih (Q.length - (m + 1)) (by omega) _ ⟨m + 1, (((kp.trans (Kp.new n2 H2 _)).set _ hnw (by omega)).trans (Kp.new (n2 + 1) _ _)).set _ hr0 (by omega), f0, ⟨_, _, hset_at _ _ _, ?_, hkeepL _ (hset_ne _ _ _ hyr |>.trans ((hset_ne _ _ _ (by omega)).trans ((hset_ne _ _ _ (Ne.symm hwy)).trans (hset_ne _ _ _ (by omega))))), ?_⟩, hml, hneg', rfl⟩
          · rw [htake, ← hdl]
            exact IL.grown ((hset_ne _ _ _ (by omega)).trans (hset_at _ _ _)) (by have := kp.le; omega) (by omega)
          · intro a b i j e1 e2
            simp only [Value.slice.injEq, Option.some.injEq, Addr.mk.injEq] at e1 e2
            omega
    · have hme : m = Q.length := by omega
      subst hme
      rw [List.take_length] at hneg hvd
      rw [List.drop_length, List.reverse_nil] at hvl
      obtain ⟨e1, e2⟩ := tw_all hneg
      have h00 : ((0 : Int) < ((0 : Nat) : Int)) = False := by simp
      have fin : ∀ f : Fr, FinX Try.prog (fun z => n0 ≤ z) Try.f79.results.toList n H (fun _ _ H' => Runs n0 H' r pt pv pr g (layS done Q).1 (layS done Q).2.reverse) .normal ⟨f, n1, H1⟩ := fun f =>
        ⟨Or.inl rfl, _, rfl, fun x _ hX => (kp.keep x (by omega)).trans (k00.keep x (by omega)).symm, vd, vl, hro, by unfold layS; rw [e1]; exact hvd, by unfold layS; rw [e2]; exact hvl, hap⟩
      rcases hvl with ⟨rfl, _⟩ | ⟨y, cs, rfl, _⟩
      · repeat (first | refine qqm rfl ?_ | ((first | refine qqr ?_ | refine qqt ?_); simp only [SS, qx31, vun, simprocAttr, f0, aop_nc, tnc, hro, hr4, h00, ff_79]))
        exact WK.skipNil (fin _)
      · simp only [List.length_nil] at hr4 hro
        repeat (first | refine qqm rfl ?_ | ((first | refine qqr ?_ | refine qqt ?_); simp only [SS, qx31, vun, simprocAttr, f0, aop_nc, tnc, hro, hr4, h00, ff_79]))
        exact WK.skipNil (fin _)
end Go.Proofs.Ytfbdababcdfjfaa
