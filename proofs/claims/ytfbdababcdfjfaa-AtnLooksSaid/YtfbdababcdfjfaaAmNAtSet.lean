/- A part of a proof. Its conditions: none. -/
import Derived.Test.YtfbdababcdfjfaaAmNLfRight
import Derived.Test.YtfbdababcdfjfaaAmNKpD
import Derived.Test.YtfbdababcdfjfaaAmNKept
import Derived.Test.YtfbdababcdfjfaaAmC
import Derived.Test.YtfbdababcdfjfaaAmNAtMv
import Derived.Test.YtfbdababcdfjfaaAmNLfNan
import Derived.Test.YtfbdababcdfjfaaAmNLfBytes
set_option linter.all false
namespace Go.Proofs.Ytfbdababcdfjfaa
open Go.AM
set_option maxRecDepth 100000
def AllUse (g : Gram) : Prop := ∀ r ∈ g.rules, Usd g r.left ∧ ∀ s ∈ r.right, 0 ≤ s → Prd g s
theorem prd_in {g : Gram} (hi : InG g) {v : Int} (h : Prd g v) : 0 ≤ v ∧ v < g.vars.length := by
 cases h with
 | mk i h h1 => exact ⟨hi.left0 _ (List.getElem_mem h), hi.left1 _ (List.getElem_mem h)⟩
theorem hold_of {n : Nat} {p : Int → Prop} (hp : ∀ v, p v → 0 ≤ v ∧ v < n) (v : Int) : hold ((List.range n).map fun i : Nat => @decide (p i) (Classical.propDecidable _)) v ↔ p v := by
 unfold hold
 constructor
 ·rintro ⟨h0, h1⟩
  rw [List.getD_eq_getElem?_getD, List.getElem?_map] at h1
  by_cases hl : v.toNat < n
  ·rw [List.getElem?_range hl] at h1
   simp only [Option.map_some, Option.getD_some, decide_eq_true_eq] at h1
   rwa [Int.toNat_of_nonneg h0] at h1
  ·rw [List.getElem?_eq_none (by simp; omega)] at h1
   simp at h1
 ·intro h
  obtain ⟨h0, h1⟩ := hp v h
  refine ⟨h0, ?_⟩
  rw [List.getD_eq_getElem?_getD, List.getElem?_map, List.getElem?_range (by omega)]
  simp only [Option.map_some, Option.getD_some, decide_eq_true_eq]
  rwa [Int.toNat_of_nonneg h0]
theorem kp_all {g : Gram} (hi : InG g) {us ws : List Bool} (hus : ∀ v, hold us v ↔ Usd g v) (hws : ∀ v, hold ws v ↔ Prd g v) {r : GRule} (hr : r ∈ g.rules) (h : kpB us ws r = true) : Usd g r.left ∧ ∀ s ∈ r.right, 0 ≤ s → Prd g s := by
 unfold kpB at h
 rw [Bool.and_eq_true] at h
 refine ⟨(hus _).1 ⟨hi.left0 r hr, h.1⟩, fun s hs h0 => (hws s).1 ((prdB_hold.1 h.2) s hs h0)⟩
set_option maxHeartbeats 8000000 in
theorem whole12_gives {v : Value} {g : Gram} {n : Nat} {H : Heap} (hw : WF n H) (hg : RG H v g) (wg : WG g) :
  Gives Try.prog 8 [v] n H fun v _ _ => ∃ t : Int, v = .int .i64 t ∧ (t = 0 ∨ t = 1 ∧ RightX g ∧ few g = true ∧ AllUse g) := by
 have hg0 := hg
 obtain ⟨pt, pv, pr, rfl, ht, hv, hr⟩ := hg
 refine Gives.of orders ok8 (Nat.le_of_ble_eq_true rfl) ?_
 have k1 := Kp.new n H (.cells (gcells pt pv pr g) 25 true)
 have hb := hset_at H n (.cells (gcells pt pv pr g) 25 true)
 repeat refine qqn rfl ?_
 (refine qqr ?_; simp only [SS, qx24, vun, simprocAttr, box_cells, box_one, ff_8])
 generalize hset H n (.cells (gcells pt pv pr g) 25 true) = H1 at *
 have hw1 := k1.wf hw
 have hg1 := hg0.mono hw k1
 repeat (first | refine qqm rfl ?_ | ((first | refine qqr ?_ | refine qqt ?_); simp only [SS, qx24, vun, simprocAttr, hb, gc_all, gc_len, ff_8]))
 refine AtCall.by (few_gives hw1 hg1 wg) ?_
 rintro v n2 H2 k2 rfl
 have hw2 := k2.wf hw1
 have hle2 := k2.le
 have hb2 := (k2.keep n (by omega)).trans hb
 have hg2 := hg1.mono hw1 k2
 have k12 := k1.trans k2
 cases hf : few g with
 | false =>
  simp only [SS, qx24, vun, simprocAttr, Bool.not_false, ff_8]
  repeat (first | refine qqm rfl ?_ | ((first | refine qqr ?_ | refine qqt ?_); simp only [SS, qx24, vun, simprocAttr, ff_8]))
  first | refine qqf ?_ ?_ | refine qqg ?_ ?_
  ·exact k12.keep
  ·simp only [packed, qv, Nat.reduceEqDiff, ↓reduceIte, ff_8]
   exact ⟨0, rfl, rfl⟩
 | true =>
  simp only [SS, qx24, vun, simprocAttr, Bool.not_true, hb2, gc_all, gc_len, ff_8]
  refine AtCall.by (rightX_gives hw2 hg2 wg) ?_
  rintro v n3 H3 k3 ⟨t, rfl, hok⟩
  have hw3 := k3.wf hw2
  have hle3 := k3.le
  have hb3 := (k3.keep n (by omega)).trans hb2
  have hg3 := hg2.mono hw2 k3
  have k13 := k12.trans k3
  cases t with
  | false =>
   simp only [SS, qx24, vun, simprocAttr, Bool.not_false, ff_8]
   repeat (first | refine qqm rfl ?_ | ((first | refine qqr ?_ | refine qqt ?_); simp only [SS, qx24, vun, simprocAttr, ff_8]))
   first | refine qqf ?_ ?_ | refine qqg ?_ ?_
   ·exact k13.keep
   ·simp only [packed, qv, Nat.reduceEqDiff, ↓reduceIte, ff_8]
    exact ⟨0, rfl, .inl rfl⟩
  | true =>
   have okx := hok rfl
   have ok := okx.toRightOK
   have hi := ok.inG
   have hrl := ok.rules
   have hus := hold_of (n := g.vars.length) (p := Usd g) fun v h => prd_in hi h.prd
   have hws := hold_of (n := g.vars.length) (p := Prd g) fun v h => prd_in hi h
   generalize hU : ((List.range g.vars.length).map fun i : Nat => @decide (Usd g i) (Classical.propDecidable _)) = us at *
   generalize hW : ((List.range g.vars.length).map fun i : Nat => @decide (Prd g i) (Classical.propDecidable _)) = ws at *
   have hul : us.length = g.vars.length := by rw [← hU]; simp
   have hwl : ws.length = g.vars.length := by rw [← hW]; simp
   simp only [SS, qx24, vun, simprocAttr, Bool.not_true, ff_8]
   repeat (first | refine qqm rfl ?_ | ((first | refine qqr ?_ | refine qqt ?_); simp only [SS, qx24, vun, simprocAttr, hb3, gc_2, ff_8]))
   refine WK.loop (fun kk s => ∃ i : Nat, Kp (n + 1) H1 s.n s.H ∧ s.f 1 = .pointer (some ⟨n, 0, none⟩) ∧ s.f 14 = .int .i64 (g.rules.length : Nat) ∧ s.f 15 = .int .i64 (i : Nat) ∧ i ≤ g.rules.length ∧ (∀ r ∈ g.rules.take i, kpB us ws r = true) ∧ kk = g.rules.length - i) g.rules.length ?_ ?_
   ·exact ⟨0, k2.trans k3, rfl, rfl, rfl, Nat.zero_le _, fun r hr => by simp at hr, rfl⟩
   clear k3 k13 hb3 hg3 hw3 hle3
   rintro kk ⟨f, n3, H3⟩ ⟨i, k3, f1, f14, f15, hil, hkp, rfl⟩ ih
   simp only at k3 f1 f14 f15 ih
   have hw3 := k3.wf hw1
   have hle3 := k3.le
   have hb3 := (k3.keep n (by omega)).trans hb
   have hg3 := hg1.mono hw1 k3
   by_cases hlt : i < g.rules.length
   ·have hiw : IntKind.i64.wrap ((i : Int) + 1) = ((i + 1 : Nat) : Int) := by rw [wrap_in (by omega) (by omega)]; rfl
    repeat (first | refine qqm rfl ?_ | ((first | refine qqr ?_ | refine qqt ?_); simp only [SS, qx24, vun, simprocAttr, f1, f14, f15, hlt, hb3, gc_all, gc_len, ff_8]))
    refine AtCall.by (kept_gives hw3 hg3 wg ok hlt hul hwl hus hws) ?_
    rintro v n4 H4 k4 rfl
    cases hk : kpB us ws g.rules[i] with
    | false =>
     simp only [SS, qx24, vun, simprocAttr, Bool.not_false, ff_8]
     repeat (first | refine qqm rfl ?_ | ((first | refine qqr ?_ | refine qqt ?_); simp only [SS, qx24, vun, simprocAttr, ff_8]))
     first | refine qqf ?_ ?_ | refine qqg ?_ ?_
     ·exact (k1.trans (k3.trans k4)).keep
     ·simp only [packed, qv, Nat.reduceEqDiff, ↓reduceIte, ff_8]
      exact ⟨0, rfl, .inl rfl⟩
    | true =>
     simp only [SS, qx24, vun, simprocAttr, Bool.not_true, ff_8]
     repeat (first | refine qqm rfl ?_ | ((first | refine qqr ?_ | refine qqt ?_); simp only [SS, qx24, vun, simprocAttr, f15, hiw, ff_8]))
     refine ih (g.rules.length - (i + 1)) (by omega) _ ⟨i + 1, k3.trans k4, f1, f14, rfl, hlt, fun r hr => ?_, rfl⟩
     rw [List.take_succ_eq_append_getElem hlt] at hr
     rcases List.mem_append.1 hr with hr | hr
     ·exact hkp r hr
     ·rw [List.mem_singleton] at hr; rw [hr]; exact hk
   ·rw [List.take_of_length_le (by omega)] at hkp
    repeat (first | refine qqm rfl ?_ | ((first | refine qqr ?_ | refine qqt ?_); simp only [SS, qx24, vun, simprocAttr, f1, f14, f15, hlt, ff_8]))
    first | refine qqf ?_ ?_ | refine qqg ?_ ?_
    ·exact (k1.trans k3).keep
    ·simp only [packed, qv, Nat.reduceEqDiff, ↓reduceIte, ff_8]
     exact ⟨1, rfl, .inr ⟨rfl, okx, fun r hr => kp_all hi hus hws hr (hkp r hr)⟩⟩
end Go.Proofs.Ytfbdababcdfjfaa

namespace Go.Proofs.Ytfbdababcdfjfaa
open Go.AM
set_option maxRecDepth 100000
theorem startL_mem (g : Gram) (v : Int) : ∀ x ∈ startL g v, x.2 = none ∧ x.1.stack = [] ∧ GC g x.1 := by
 intro x hx
 unfold startL at hx
 split at hx
 case isFalse => simp at hx
 obtain ⟨r, hr, rfl⟩ := List.mem_map.1 hx
 unfold ruleIx at hr
 have hr1 := List.mem_range.1 (List.mem_filter.1 hr).1
 exact ⟨rfl, rfl, ⟨by show (r : Int) < _; omega, fun q _ _ => ⟨Int.le_refl _, by show (0 : Int) ≤ _; omega⟩⟩, fun s hs => by simp at hs⟩
theorem startL_len (g : Gram) (v : Int) : (startL g v).length ≤ g.rules.length := by
 unfold startL
 split
 ·rw [List.length_map]
  unfold ruleIx
  exact Nat.le_trans (List.length_filter_le _ _) (by rw [List.length_range]; exact Nat.le_refl _)
 ·exact Nat.zero_le _
end Go.Proofs.Ytfbdababcdfjfaa

namespace Go.Proofs.Ytfbdababcdfjfaa
open Go.AM
set_option maxRecDepth 100000
theorem less_self4 : ∀ a : List Int, less a a = false
 | [] => rfl
 | x :: a => by show (if x = x then less a a else decide (x < x)) = false; rw [if_pos rfl, less_self4 a]
theorem same_self4 (a : List Int) : same a a = true := by unfold same; rw [less_self4]; rfl
theorem step_alt {g : Gram} {cl : List (List (Int × Int))} {c d : Cfg} (h : d ∈ stepL g cl c) : d.alt = c.alt := by
 unfold stepL at h
 split at h
 ·simp at h
 split at h
 ·simp at h
 split at h
 ·unfold backL at h
  split at h
  ·rw [List.mem_singleton] at h
   rw [h]
  ·split at h
   ·simp at h
   ·rcases List.mem_append.1 h with h | h
    ·split at h
     ·rw [List.mem_singleton] at h; rw [h]
     ·simp at h
    ·obtain ⟨s, _, rfl⟩ := List.mem_map.1 h
     rfl
 ·split at h
  ·simp at h
  ·split at h
   ·obtain ⟨i, _, rfl⟩ := List.mem_map.1 h
    rfl
   ·simp at h
theorem RchC.alt {g : Gram} {cl : List (List (Int × Int))} {l : List Cfg} {c : Cfg} {P : Int → Prop} (h : RchC g cl l c) (hl : ∀ c ∈ l, P c.alt) : P c.alt := by
 induction h with
 | base h => exact hl _ h
 | step _ k ih => rw [step_alt k]; exact ih
theorem sp_row {H : Heap} {p : Option Addr} {l : List Int} (h : RS (Value.int .i64) H p l) : (p = none ∧ l = []) ∨ ∃ x k cs ty own, p = some ⟨x, k, none⟩ ∧ H x = .cells cs ty own ∧ k + l.length ≤ cs.length ∧ (cs.drop k).take l.length = l.map (Value.int .i64) := by
 rcases h with h | ⟨x, k, cs, ty, own, e1, e2, e3, e4⟩
 ·exact .inl h
 ·refine .inr ⟨x, k, cs, ty, own, e1, e2, e3, ?_⟩
  apply List.ext_getElem?
  intro i
  rw [List.getElem?_take, List.getElem?_drop, List.getElem?_map]
  by_cases hi : i < l.length
  ·rw [if_pos hi, e4 i _ (List.getElem?_eq_getElem hi), List.getElem?_eq_getElem hi]; rfl
  ·rw [if_neg hi, List.getElem?_eq_none (by omega)]; rfl
structure BothC (g : Gram) (H : Heap) (deep most : Nat) (l : List Cfg) (pa pb : Option Addr) (A B : List CA) : Prop where
 ra : RN 4 ccell H pa A
 rb : RN 4 ccell H pb B
 xa : ∀ z ∈ A, XC H z
 xb : ∀ z ∈ B, XD H z
 eq : A.map (·.1) = B.map (·.1)
 srt : Srt A
 len : A.length ≤ most
 dp : ∀ z ∈ A, z.1.stack.length ≤ deep
 rch : ∀ z ∈ A, RchC g (callsL g) l z.1
end Go.Proofs.Ytfbdababcdfjfaa

namespace Go.Proofs.Ytfbdababcdfjfaa
open Go.AM
set_option maxRecDepth 100000
theorem WK.frame {P : Program} {c : Code} {K : List Fk} {n : Nat} {H : Heap} {Q : AExit → St → Prop} {f0 : Fr} (R : Fr → Prop) (h0 : R f0) (h : ∀ f, R f → WK P c K ⟨f, n, H⟩ Q) : WK P c K ⟨f0, n, H⟩ Q := h f0 h0
def AltOK (g : Gram) (c : Cfg) : Prop := 0 ≤ c.alt ∧ c.alt < g.rules.length
end Go.Proofs.Ytfbdababcdfjfaa

namespace Go.Proofs.Ytfbdababcdfjfaa
open Go.AM
set_option maxRecDepth 100000
abbrev WA := List Int × Option Addr
def wcell (x : WA) : List Value := [.slice x.2 x.1.length x.1.length]
theorem wcell_len (x : WA) : (wcell x).length = 1 := rfl
def WD (H : Heap) (x : WA) : Prop := RS (Value.int .i64) H x.2 x.1 ∧ ∀ z k, x.2 = some ⟨z, k, none⟩ → ∃ cs own, H z = .cells cs 3 own
theorem WD.mono {n n' : Nat} {H H' : Heap} {x : WA} (h : WD H x) (hw : WF n H) (k : Kp n H n' H') : WD H' x :=
 ⟨h.1.mono hw k, fun z kz e => by obtain ⟨cs, own, e5⟩ := h.2 z kz e; exact ⟨cs, own, (k.keep z (live_lt hw (live_of e5))).trans e5⟩⟩
structure WS (H : Heap) (p : Option Addr) (X : List WA) : Prop where
 row : RN 1 wcell H p X
 w : ∀ x ∈ X, WD H x
 t : ∀ z k, p = some ⟨z, k, none⟩ → ∃ cs own, H z = .cells cs 26 own
theorem WS.mono {n n' : Nat} {H H' : Heap} {p : Option Addr} {X : List WA} (h : WS H p X) (hw : WF n H) (k : Kp n H n' H') : WS H' p X :=
 ⟨h.row.mono hw k, fun x hx => (h.w x hx).mono hw k, fun z kz e => by obtain ⟨cs, own, e5⟩ := h.t z kz e; exact ⟨cs, own, (k.keep z (live_lt hw (live_of e5))).trans e5⟩⟩
theorem WS.at {H : Heap} {p : Option Addr} {X : List WA} (h : WS H p X) {i : Nat} (hi : i < X.length) : ∃ x k cs ty own, p = some ⟨x, k, none⟩ ∧ H x = .cells cs ty own ∧ cs[k + i]? = some (.slice X[i].2 X[i].1.length X[i].1.length) := by
 obtain ⟨x, k, cs, ty, own, e1, e2, e3, e4⟩ := h.row.at wcell_len hi
 refine ⟨x, k, cs, ty, own, e1, e2, ?_⟩
 rw [Nat.mul_one] at e3
 have h1 : ((cs.drop (k + i)).take 1)[0]? = (wcell X[i])[0]? := by rw [e3]
 rw [List.getElem?_take, List.getElem?_drop] at h1
 simpa [wcell] using h1
theorem less_tri4 : ∀ a b : List Int, less a b = true ∨ a = b ∨ less b a = true
 | [], [] => .inr (.inl rfl)
 | [], _ :: _ => .inl rfl
 | _ :: _, [] => .inr (.inr rfl)
 | x :: a, y :: b => by
  show (if x = y then less a b else decide (x < y)) = true ∨ _ ∨ (if y = x then less b a else decide (y < x)) = true
  by_cases e : x = y
  ·subst e
   rw [if_pos rfl, if_pos rfl]
   rcases less_tri4 a b with h | h | h
   ·exact .inl h
   ·exact .inr (.inl (by rw [h]))
   ·exact .inr (.inr h)
  ·rw [if_neg e, if_neg (fun h => e h.symm)]
   rcases Int.lt_or_gt_of_ne e with h | h
   ·exact .inl (by simpa using h)
   ·exact .inr (.inr (by simpa using h))
theorem same_of {a b : List Int} (h : same a b = true) : a = b := by
 unfold same at h
 simp only [Bool.and_eq_true, Bool.not_eq_true'] at h
 rcases less_tri4 a b with h1 | h1 | h1
 ·rw [h.1] at h1; cases h1
 ·exact h1
 ·rw [h.2] at h1; cases h1
theorem same_eq {a b : List Int} : same a b = decide (a = b) := by
 by_cases h : a = b
 ·rw [h, same_self4, decide_eq_true rfl]
 ·rw [decide_eq_false h, Bool.eq_false_iff]
  intro hs
  exact h (same_of hs)
set_option maxHeartbeats 4000000 in
theorem has_gives {n : Nat} {H : Heap} {p a : Option Addr} {X : List WA} {u : List Int} (hw : WF n H) (hX : WS H p X) (ha : RS (Value.int .i64) H a u) (hl : X.length ≤ 1000000) (hxl : ∀ x ∈ X, x.1.length ≤ 1000) (hul : u.length ≤ 1000) :
  Gives Try.prog 98 [.slice p X.length X.length, .slice a u.length u.length] n H fun v n' H' => v = .bool (decide (u ∈ X.map (·.1))) ∧ n' = n ∧ H' = H := by
 refine Gives.of orders ok98 (Nat.le_of_ble_eq_true rfl) ?_
 repeat (first | refine qqm rfl ?_ | ((first | refine qqr ?_ | refine qqt ?_); simp only [SS, qx6, simprocAttr, ff_98]))
 refine WK.loop (fun kk s => ∃ i : Nat, s.n = n ∧ s.H = H ∧ s.f 0 = .slice p X.length X.length ∧ s.f 1 = .slice a u.length u.length ∧ s.f 5 = .int .i64 (i : Nat) ∧ i ≤ X.length ∧ u ∉ (X.take i).map (·.1) ∧ kk = X.length - i) X.length ?_ ?_
 ·exact ⟨0, rfl, rfl, rfl, rfl, rfl, Nat.zero_le _, by simp, rfl⟩
 rintro kk ⟨f, n1, H1⟩ ⟨i, e1, e2, f0, f1, f5, hil, hni, rfl⟩ ih
 simp only at e1 e2 f0 f1 f5 ih
 subst e1 e2
 by_cases hlt : i < X.length
 ·have hiw : IntKind.i64.wrap ((i : Int) + 1) = ((i + 1 : Nat) : Int) := by rw [wrap_in (by omega) (by omega)]; rfl
  obtain ⟨z, kz, cs, tz, oz, e0, hz, e⟩ := hX.at hlt
  subst e0
  have hmem := List.getElem_mem hlt
  repeat (first | refine qqm rfl ?_ | ((first | refine qqr ?_ | refine qqt ?_); simp only [SS, qx6, simprocAttr, f0, f1, f5, hlt, hz, e, ff_98]))
  refine AtCall.by (same_gives (hX.w _ hmem).1.ra ha.ra (by have := hxl _ hmem; unfold maxL; omega) (by unfold maxL; omega)) ?_
  rintro _ n2 H2 k2 ⟨rfl, hn2, hH2⟩
  subst hn2
  obtain rfl := hH2.symm
  rw [same_eq]
  by_cases he : X[i].1 = u
  ·have hin : u ∈ X.map (·.1) := List.mem_map.2 ⟨_, hmem, he⟩
   simp only [SS, qx6, simprocAttr, he, decide_true, ff_98]
   repeat (first | refine qqm rfl ?_ | ((first | refine qqr ?_ | refine qqt ?_); simp only [SS, qx6, simprocAttr, ff_98]))
   first | refine qqf ?_ ?_ | refine qqg ?_ ?_
   ·exact fun _ _ => rfl
   ·simp only [packed, qv, Nat.reduceEqDiff, ↓reduceIte, hin, decide_true, ff_98]
    exact ⟨trivial, trivial, trivial⟩
  ·simp only [SS, qx6, simprocAttr, he, decide_false, ff_98]
   repeat (first | refine qqm rfl ?_ | ((first | refine qqr ?_ | refine qqt ?_); simp only [SS, qx6, simprocAttr, f5, hiw, ff_98]))
   refine ih (X.length - (i + 1)) (by omega) _ ?_
   refine ⟨i + 1, rfl, rfl, f0, f1, rfl, hlt, ?_, rfl⟩
   rw [List.take_add_one, List.getElem?_eq_getElem hlt, List.map_append, List.mem_append]
   rintro (h | h)
   ·exact hni h
   ·simp at h; exact he h.symm
 ·obtain rfl : i = X.length := by omega
  rw [List.take_length] at hni
  repeat (first | refine qqm rfl ?_ | ((first | refine qqr ?_ | refine qqt ?_); simp only [SS, qx6, simprocAttr, f0, f5, hlt, ff_98]))
  first | refine qqf ?_ ?_ | refine qqg ?_ ?_
  ·exact fun _ _ => rfl
  ·simp only [packed, qv, Nat.reduceEqDiff, ↓reduceIte, hni, decide_false, ff_98]
   exact ⟨trivial, trivial, trivial⟩
structure AddS (X Y : List WA) (u : List Int) : Prop where
 mem : ∀ c, c ∈ Y.map (·.1) ↔ c ∈ X.map (·.1) ∨ c = u
 nd : (X.map (·.1)).Nodup → (Y.map (·.1)).Nodup
 len : Y.length = X.length + if u ∈ X.map (·.1) then 0 else 1
theorem rs_own {H : Heap} {z : Nat} {u : List Int} (h : H z = .cells (u.map (Value.int .i64)) 3 true) : RS (Value.int .i64) H (some ⟨z, 0, none⟩) u :=
 .inr ⟨z, 0, _, _, true, rfl, h, by rw [List.length_map]; omega, fun i y e => by rw [Nat.zero_add, List.getElem?_map, e]; rfl⟩
theorem wd_own {H : Heap} {z : Nat} {u : List Int} (h : H z = .cells (u.map (Value.int .i64)) 3 true) : WD H (u, some ⟨z, 0, none⟩) := ⟨rs_own h, fun z' k e => by cases e; exact ⟨_, _, h⟩⟩
theorem ws_at {Y : List WA} {y : Nat} {H : Heap} (h : H y = .cells (Y.flatMap wcell) 26 true) (hx : ∀ x ∈ Y, WD H x) : WS H (some ⟨y, 0, none⟩) Y :=
 ⟨.inr ⟨y, 0, _, _, true, rfl, h, by rw [fm_len wcell_len]; omega, by rw [List.drop_zero]; exact List.take_of_length_le (by rw [fm_len wcell_len]; omega)⟩, hx, fun z k e => by cases e; exact ⟨_, _, h⟩⟩
def AInv (n1 : Nat) (H : Heap) (p a : Option Addr) (X : List WA) (u : List Int) (i : Nat) (s : St) : Prop :=
  ∃ (y cz : Nat) (Y : List WA) (dn : Bool), Kp n1 H s.n s.H ∧ n1 ≤ y ∧ y < s.n ∧ s.H y = .cells (Y.flatMap wcell) 26 true ∧ (dn = true → n1 ≤ cz ∧ cz < s.n ∧ cz ≠ y ∧ s.H cz = .cells (u.map (Value.int .i64)) 3 true) ∧ (∀ x ∈ Y, x ∈ X ∨ (dn = true ∧ x = (u, some ⟨cz, 0, none⟩))) ∧
      s.f 0 = .slice p X.length X.length ∧ s.f 1 = .slice a u.length u.length ∧ s.f 5 = lv y Y ∧ s.f 6 = .bool dn ∧ s.f 7 = .int .i64 (i : Nat) ∧ Y.length = i + (if dn then 1 else 0) ∧
      (∀ c, c ∈ Y.map (·.1) ↔ c ∈ (X.take i).map (·.1) ∨ (dn = true ∧ c = u)) ∧ ((X.map (·.1)).Nodup → (Y.map (·.1)).Nodup)
set_option maxHeartbeats 16000000 in
theorem add02_gives {n : Nat} {H : Heap} {p a : Option Addr} {X : List WA} {u : List Int} (hw : WF n H) (hX : WS H p X) (ha : RS (Value.int .i64) H a u) (hl : X.length ≤ 1000000) (hxl : ∀ x ∈ X, x.1.length ≤ 1000) (hul : u.length ≤ 1000) :
    Gives Try.prog 77 [.slice p X.length X.length, .slice a u.length u.length] n H fun v _ H' => ∃ p' Y, v = .slice p' Y.length Y.length ∧ WS H' p' Y ∧ AddS X Y u := by
  refine Gives.of orders ok77 (Nat.le_of_ble_eq_true rfl) ?_
  repeat (first | refine qqm rfl ?_ | ((first | refine qqr ?_ | refine qqt ?_); simp only [SS, qx10, vun, simprocAttr, ff_77]))
  refine AtCall.by (has_gives hw hX ha hl hxl hul) ?_
  rintro _ n1 H1 k1 ⟨rfl, hn1, hH1⟩
  subst hn1
  obtain rfl := hH1.symm
  by_cases hin : u ∈ X.map (·.1)
  · simp only [SS, qx10, vun, simprocAttr, hin, decide_true, ff_77]
    repeat (first | refine qqm rfl ?_ | ((first | refine qqr ?_ | refine qqt ?_); simp only [SS, qx10, vun, simprocAttr, ff_77]))
    first | refine qqf ?_ ?_ | refine qqg ?_ ?_
    · exact fun _ _ => rfl
    · simp only [packed, qv, Nat.reduceEqDiff, ↓reduceIte, ff_77]
      refine ⟨p, X, rfl, hX, fun c => ⟨.inl, fun h => h.elim id fun h => h ▸ hin⟩, id, by rw [if_pos hin]; rfl⟩
  simp only [SS, qx10, vun, simprocAttr, hin, decide_false, ff_77]
  repeat refine qqn rfl ?_
  refine qqm rfl ?_
  apply WK.skipSeq; apply WK.seq
  (refine qqr ?_; simp only [SS, qx10, vun, simprocAttr, ff_77])
  have kO := Kp.new n1 H (.cells [] 26 true)
  have hO := hset_at H n1 (.cells [] 26 true)
  generalize hset H n1 (.cells [] 26 true) = H2 at *
  repeat (first | refine qqm rfl ?_ | ((first | refine qqr ?_ | refine qqt ?_); simp only [SS, qx10, vun, simprocAttr, ff_77]))
  refine WK.loop (fun kk s => ∃ i : Nat, AInv n1 H p a X u i s ∧ i ≤ X.length ∧ kk = X.length - i) X.length ?_ ?_
  · exact ⟨0, ⟨n1, 0, [], false, kO, Nat.le_refl _, Nat.lt_succ_self _, hO, fun h => (by cases h), fun x hx => (by cases hx), rfl, rfl, rfl, rfl, rfl, rfl, fun c => by simp, fun _ => by simp⟩, Nat.zero_le _, rfl⟩
  rintro kk ⟨f, n3, H3⟩ ⟨i, ⟨y, cz, Y, dn, k3, hy0, hyn, hy, hcz, hYx, f0, f1, f5, f6, f7, hYl, hYm, hYn⟩, hil, rfl⟩ ih
  simp only at k3 hyn hy hcz f0 f1 f5 f6 f7 ih
  have hw3 := k3.wf hw
  have hle3 := k3.le
  have hX3 := hX.mono hw k3
  have hfl : (Y.flatMap wcell).length = Y.length := by rw [fm_len wcell_len, Nat.mul_one]
  have htk : (Y.flatMap wcell).take Y.length = Y.flatMap wcell := List.take_of_length_le (by omega)
  by_cases hlt : i < X.length
  · have hiw : IntKind.i64.wrap ((i : Int) + 1) = ((i + 1 : Nat) : Int) := by rw [wrap_in (by omega) (by omega)]; rfl
    obtain ⟨z, kz, cs, tz, oz, e0, hz, e⟩ := hX3.at hlt
    subst e0
    have hzn := live_lt hw3 (live_of hz)
    have hmem := List.getElem_mem hlt
    repeat refine qqn rfl ?_
    (refine qqr ?_; simp only [SS, qx10, vun, simprocAttr, f0, f7, hlt, ff_77])
    repeat refine qqn rfl ?_
    refine qqm rfl ?_
    apply WK.skipSeq; apply WK.seq; apply WK.block; apply WK.seq
    refine WK.cut (AInv n1 H (some ⟨z, kz, none⟩) a X u i) ?_ ?_
    · cases dn with
      | true =>
        repeat (first | refine qqm rfl ?_ | ((first | refine qqr ?_ | refine qqt ?_); simp only [SS, qx10, vun, simprocAttr, f0, f1, f6, f7, hlt, hz, e, Bool.not_true, ff_77]))
        exact WK.skipNil ⟨rfl, y, cz, Y, true, k3, hy0, hyn, hy, hcz, hYx, f0, f1, f5, f6, f7, hYl, hYm, hYn⟩
      | false =>
        have hYl' : Y.length = i := by simpa using hYl
        repeat (first | refine qqm rfl ?_ | ((first | refine qqr ?_ | refine qqt ?_); simp only [SS, qx10, vun, simprocAttr, f0, f1, f6, f7, hlt, hz, e, Bool.not_false, ff_77]))
        refine AtCall.by (less_gives (ha.mono hw k3).ra (hX3.w _ hmem).1.ra (by unfold maxL; omega)) ?_
        rintro _ n4 H4 k4 ⟨rfl, hn4, hH4⟩
        subst hn4
        obtain rfl := hH4.symm
        cases hls : less u X[i].1 with
        | false =>
          simp only [SS, qx10, vun, simprocAttr, ff_77]
          repeat (first | refine qqm rfl ?_ | ((first | refine qqr ?_ | refine qqt ?_); simp only [SS, qx10, vun, simprocAttr, ff_77]))
          exact WK.skipNil ⟨rfl, y, cz, Y, false, k3, hy0, hyn, hy, hcz, hYx, f0, f1, f5, f6, f7, hYl, hYm, hYn⟩
        | true =>
          simp only [SS, qx10, vun, simprocAttr, ff_77]
          repeat refine qqn rfl ?_
          refine qqm rfl ?_
          repeat refine qqn rfl ?_
          have bu : u.length ≤ bigN := by unfold bigN; omega
          have bl : Y.length + 1 ≤ bigN := by unfold bigN; omega
          have hnc : ([] : List Nat).contains n4 = false := rfl
          have hum : (u.map (Value.int .i64)).length = u.length := List.length_map _
          have k33 : ∀ A B C, Kx (fun z => z = y) n4 H3 (n4 + 1 + 1 + 1 + 1) (hset (hset (hset (hset (hset H3 n4 .dead) (n4 + 1) A) (n4 + 1 + 1) B) y .dead) (n4 + 1 + 1 + 1) C) := fun A B C => ((((Kp.new n4 H3 .dead).trans ((Kp.new (n4 + 1) _ A).trans (Kp.new (n4 + 1 + 1) _ B))).kx (X := fun z => z = y)).set (x := y) .dead (.inl rfl) (by omega)).trans (Kp.new (n4 + 1 + 1 + 1) _ C).kx
          have kF : ∀ A B C, Kp n1 H (n4 + 1 + 1 + 1 + 1) (hset (hset (hset (hset (hset H3 n4 .dead) (n4 + 1) A) (n4 + 1 + 1) B) y .dead) (n4 + 1 + 1 + 1) C) := fun A B C => ⟨by omega, fun z hz => ((k33 A B C).keep z (by omega) (by omega)).trans (k3.keep z hz), fun h => (k33 A B C).wf (k3.wf h)⟩
          have my : ∀ A B, hset (hset (hset H3 n4 .dead) (n4 + 1) A) (n4 + 1 + 1) B y = .cells (Y.flatMap wcell) 26 true := fun A B => (hset_ne _ _ _ (by omega)).trans ((hset_ne _ _ _ (by omega)).trans ((hset_ne _ _ _ (by omega)).trans hy))
          have mc : ∀ A B C, hset (hset (hset (hset (hset H3 n4 .dead) (n4 + 1) A) (n4 + 1 + 1) B) y .dead) (n4 + 1 + 1 + 1) C (n4 + 1) = A := fun A B C => (hset_ne _ _ _ (by omega)).trans ((hset_ne _ _ _ (by omega)).trans ((hset_ne _ _ _ (by omega)).trans (hset_at _ _ _)))
          have c2 : [n4 + 1 + 1].contains y = false := by simp; omega
          have hur := sp_row (ha.mono hw k3)
          have hfl2 : (Y ++ [((u, some ⟨n4 + 1, 0, none⟩) : WA)]).flatMap wcell = Y.flatMap wcell ++ [.slice (some ⟨n4 + 1, 0, none⟩) u.length u.length] := by rw [List.flatMap_append]; rfl
          rcases hur with ⟨h1, h2⟩ | ⟨x, k, cs', ty', own', h1, h2, h3, h4⟩
          · subst h1
            have h2l : u.length = 0 := by rw [h2]; rfl
            have h2m : u.map (Value.int .i64) = [] := by rw [h2]; rfl
            (refine qqr ?_; simp only [SS, qx10, vun, simprocAttr, f1, f5, h2l, hnc, my, c2, bl, hfl, htk, hset_at, hset_hset, Nat.le_refl, List.drop_zero, Nat.mul_one, Nat.zero_mul, Nat.zero_add, List.take_nil, List.drop_nil, List.nil_append, List.take_zero, ff_77])
            repeat refine qqn rfl ?_
            (refine qqr ?_; simp only [SS, qx10, vun, simprocAttr, ff_77])
            refine WK.skipNil ⟨rfl, n4 + 1 + 1 + 1, n4 + 1, Y ++ [((u, some ⟨n4 + 1, 0, none⟩) : WA)], true, kF _ _ _, by omega, Nat.lt_succ_self _, ?_, fun _ => ⟨by omega, by show n4 + 1 < n4 + 1 + 1 + 1 + 1; omega, by omega, ?_⟩, fun x hx => ?_, f0, f1, ?_, rfl, f7, ?_, fun c => ?_, fun hn => ?_⟩
            · rw [hfl2, h2l]; exact hset_at _ _ _
            · rw [h2m]; exact mc _ _ _
            · rcases List.mem_append.1 hx with h | h
              · rcases hYx x h with h | ⟨h, _⟩
                · exact .inl h
                · cases h
              · rw [List.mem_singleton] at h
                exact .inr ⟨rfl, h⟩
            · simp only [lv, List.length_append, List.length_singleton]; rfl
            · rw [List.length_append, hYl']; rfl
            · rw [List.map_append, List.mem_append, hYm]; simp
            · rw [List.map_append, List.nodup_append]
              refine ⟨hYn hn, by simp, fun c hc b hb => ?_⟩
              rw [List.map_cons, List.map_nil, List.mem_singleton] at hb
              rw [hb]
              rintro rfl
              rcases (hYm _).1 hc with h | ⟨h, _⟩
              · obtain ⟨q, hq, e⟩ := List.mem_map.1 h
                exact hin (List.mem_map.2 ⟨q, List.mem_of_mem_take hq, e⟩)
              · cases h
          · subst h1
            have hxn := live_lt hw3 (live_of h2)
            have q2 : ∀ o, hset H3 n4 o x = _ := fun o => (hset_ne _ _ _ (by omega)).trans h2
            have hcx : [x].contains n4 = false := by simp; omega
            (refine qqr ?_; simp only [SS, qx10, vun, simprocAttr, f1, f5, q2, h3, h4, hcx, bu, my, c2, bl, hfl, htk, hset_at, hset_hset, Nat.le_refl, List.drop_zero, Nat.mul_one, Nat.zero_mul, Nat.zero_add, List.take_nil, List.drop_nil, List.nil_append, List.take_zero, ff_77])
            repeat refine qqn rfl ?_
            (refine qqr ?_; simp only [SS, qx10, vun, simprocAttr, ff_77])
            refine WK.skipNil ⟨rfl, n4 + 1 + 1 + 1, n4 + 1, Y ++ [((u, some ⟨n4 + 1, 0, none⟩) : WA)], true, kF _ _ _, by omega, Nat.lt_succ_self _, ?_, fun _ => ⟨by omega, by show n4 + 1 < n4 + 1 + 1 + 1 + 1; omega, by omega, ?_⟩, fun x hx => ?_, f0, f1, ?_, rfl, f7, ?_, fun c => ?_, fun hn => ?_⟩
            · rw [hfl2]; exact hset_at _ _ _
            · exact mc _ _ _
            · rcases List.mem_append.1 hx with h | h
              · rcases hYx x h with h | ⟨h, _⟩
                · exact .inl h
                · cases h
              · rw [List.mem_singleton] at h
                exact .inr ⟨rfl, h⟩
            · simp only [lv, List.length_append, List.length_singleton]; rfl
            · rw [List.length_append, hYl']; rfl
            · rw [List.map_append, List.mem_append, hYm]; simp
            · rw [List.map_append, List.nodup_append]
              refine ⟨hYn hn, by simp, fun c hc b hb => ?_⟩
              rw [List.map_cons, List.map_nil, List.mem_singleton] at hb
              rw [hb]
              rintro rfl
              rcases (hYm _).1 hc with h | ⟨h, _⟩
              · obtain ⟨q, hq, e⟩ := List.mem_map.1 h
                exact hin (List.mem_map.2 ⟨q, List.mem_of_mem_take hq, e⟩)
              · cases h
    clear k3 hy0 hyn hy hcz hYx f0 f1 f5 f6 f7 hYl hYm hYn hX3 hw3 hle3 hfl htk hz e hzn y cz Y dn n3 H3
    rintro ⟨f, n3, H3⟩ ⟨y, cz, Y, dn, k3, hy0, hyn, hy, hcz, hYx, f0, f1, f5, f6, f7, hYl, hYm, hYn⟩
    simp only at k3 hyn hy hcz f0 f1 f5 f6 f7
    have hw3 := k3.wf hw
    have hle3 := k3.le
    have hX3 := hX.mono hw k3
    have hfl : (Y.flatMap wcell).length = Y.length := by rw [fm_len wcell_len, Nat.mul_one]
    have htk : (Y.flatMap wcell).take Y.length = Y.flatMap wcell := List.take_of_length_le (by omega)
    obtain ⟨z', kz', cs, tz, oz, e0, hz, e⟩ := hX3.at hlt
    simp only [Option.some.injEq, Addr.mk.injEq, and_true] at e0
    obtain ⟨rfl, rfl⟩ := e0
    have hzn := live_lt hw3 (live_of hz)
    have hYl2 : Y.length ≤ 1000001 := by rw [hYl]; split <;> omega
    have bl : Y.length + 1 ≤ bigN := by unfold bigN; omega
    have my : ∀ A, hset H3 n3 A y = .cells (Y.flatMap wcell) 26 true := fun A => (hset_ne _ _ _ (by omega)).trans hy
    have c2 : [n3].contains y = false := by simp; omega
    have k35 : ∀ A C, Kx (fun z => z = y) n3 H3 (n3 + 1 + 1) (hset (hset (hset H3 n3 A) y .dead) (n3 + 1) C) := fun A C => (((Kp.new n3 H3 A).kx (X := fun z => z = y)).set (x := y) .dead (.inl rfl) (by omega)).trans (Kp.new (n3 + 1) _ C).kx
    have hfl2 : (Y ++ [X[i]]).flatMap wcell = Y.flatMap wcell ++ [.slice X[i].2 X[i].1.length X[i].1.length] := by rw [List.flatMap_append]; rfl
    have htk1 : (X.take (i + 1)).map (·.1) = (X.take i).map (·.1) ++ [X[i].1] := by
      rw [List.take_add_one, List.getElem?_eq_getElem hlt, List.map_append]; rfl
    repeat (first | refine qqm rfl ?_ | ((first | refine qqr ?_ | refine qqt ?_); simp only [SS, qx10, vun, simprocAttr, f0, f5, f7, hlt, hz, e, hiw, my, c2, bl, hfl, htk, hset_at, Nat.le_refl, List.drop_zero, Nat.mul_one, ff_77]))
    have k35' := k35 (.cells [.slice X[i].2 X[i].1.length X[i].1.length] 26 true) (.cells (Y.flatMap wcell ++ [.slice X[i].2 X[i].1.length X[i].1.length]) 26 true)
    refine ih (X.length - (i + 1)) (by omega) _ ?_
    refine ⟨i + 1, ⟨n3 + 1, cz, Y ++ [X[i]], dn, ⟨by show n1 ≤ n3 + 1 + 1; omega, fun q hq => (k35'.keep q (by omega) (by omega)).trans (k3.keep q hq), fun h => k35'.wf (k3.wf h)⟩, by omega, Nat.lt_succ_self _, ?_, fun h => ?_, fun x hx => ?_, f0, f1, ?_, f6, rfl, ?_, fun c => ?_, fun hn => ?_⟩, hlt, rfl⟩
    · rw [hfl2]; exact hset_at _ _ _
    · obtain ⟨h1, h2, h3, h4⟩ := hcz h
      exact ⟨h1, by show cz < n3 + 1 + 1; omega, by omega, (k35'.keep cz h2 h3).trans h4⟩
    · rcases List.mem_append.1 hx with h | h
      · exact hYx x h
      · rw [List.mem_singleton] at h; rw [h]; exact .inl hmem
    · simp only [lv, List.length_append, List.length_singleton]; rfl
    · rw [List.length_append, hYl, List.length_singleton]; omega
    · rw [List.map_append, List.mem_append, hYm, htk1, List.mem_append]
      simp only [List.map_cons, List.map_nil, List.mem_singleton]
      constructor
      · rintro ((h | h) | h)
        · exact .inl (.inl h)
        · exact .inr h
        · exact .inl (.inr h)
      · rintro ((h | h) | h)
        · exact .inl (.inl h)
        · exact .inr h
        · exact .inl (.inr h)
    · rw [List.map_append, List.nodup_append]
      refine ⟨hYn hn, by simp, fun c hc b hb => ?_⟩
      rw [List.map_cons, List.map_nil, List.mem_singleton] at hb
      rw [hb]
      rintro rfl
      rcases (hYm _).1 hc with h | ⟨_, h⟩
      · have hnd : ((X.take (i + 1)).map (·.1)).Nodup := by
          have e : X.map (·.1) = (X.take (i + 1)).map (·.1) ++ (X.drop (i + 1)).map (·.1) := by rw [← List.map_append, List.take_append_drop]
          rw [e, List.nodup_append] at hn
          exact hn.1
        rw [htk1, List.nodup_append] at hnd
        exact hnd.2.2 _ h _ (List.mem_singleton.2 rfl) rfl
      · exact hin (h ▸ List.mem_map.2 ⟨_, hmem, rfl⟩)
  · obtain rfl : i = X.length := by omega
    rw [List.take_length] at hYm
    cases dn with
    | true =>
      obtain ⟨hc0, hc1, hc2, hc3⟩ := hcz rfl
      repeat (first | refine qqm rfl ?_ | ((first | refine qqr ?_ | refine qqt ?_); simp only [SS, qx10, vun, simprocAttr, f0, f5, f6, f7, hlt, Bool.not_true, ff_77]))
      first | refine qqf ?_ ?_ | refine qqg ?_ ?_
      · exact k3.keep
      · simp only [packed, qv, Nat.reduceEqDiff, ↓reduceIte, ff_77]
        refine ⟨some ⟨y, 0, none⟩, Y, rfl, ws_at hy fun x hx => ?_, fun c => by rw [hYm]; simp, hYn, by rw [hYl, if_neg hin]; rfl⟩
        rcases hYx x hx with h | ⟨_, rfl⟩
        · exact hX3.w x h
        · exact wd_own hc3
    | false =>
      have hYl' : Y.length = X.length := by simpa using hYl
      clear hYl
      have bu : u.length ≤ bigN := by unfold bigN; omega
      have bl : Y.length + 1 ≤ bigN := by unfold bigN; omega
      have hnc : ([] : List Nat).contains n3 = false := rfl
      have hum : (u.map (Value.int .i64)).length = u.length := List.length_map _
      have k33 : ∀ A B C, Kx (fun z => z = y) n3 H3 (n3 + 1 + 1 + 1 + 1) (hset (hset (hset (hset (hset H3 n3 .dead) (n3 + 1) A) (n3 + 1 + 1) B) y .dead) (n3 + 1 + 1 + 1) C) := fun A B C => ((((Kp.new n3 H3 .dead).trans ((Kp.new (n3 + 1) _ A).trans (Kp.new (n3 + 1 + 1) _ B))).kx (X := fun z => z = y)).set (x := y) .dead (.inl rfl) (by omega)).trans (Kp.new (n3 + 1 + 1 + 1) _ C).kx
      have kF : ∀ A B C, Kp n1 H (n3 + 1 + 1 + 1 + 1) (hset (hset (hset (hset (hset H3 n3 .dead) (n3 + 1) A) (n3 + 1 + 1) B) y .dead) (n3 + 1 + 1 + 1) C) := fun A B C => ⟨by omega, fun z hz => ((k33 A B C).keep z (by omega) (by omega)).trans (k3.keep z hz), fun h => (k33 A B C).wf (k3.wf h)⟩
      have my : ∀ A B, hset (hset (hset H3 n3 .dead) (n3 + 1) A) (n3 + 1 + 1) B y = .cells (Y.flatMap wcell) 26 true := fun A B => (hset_ne _ _ _ (by omega)).trans ((hset_ne _ _ _ (by omega)).trans ((hset_ne _ _ _ (by omega)).trans hy))
      have mc : ∀ A B C, hset (hset (hset (hset (hset H3 n3 .dead) (n3 + 1) A) (n3 + 1 + 1) B) y .dead) (n3 + 1 + 1 + 1) C (n3 + 1) = A := fun A B C => (hset_ne _ _ _ (by omega)).trans ((hset_ne _ _ _ (by omega)).trans ((hset_ne _ _ _ (by omega)).trans (hset_at _ _ _)))
      have c2 : [n3 + 1 + 1].contains y = false := by simp; omega
      have hur := sp_row (ha.mono hw k3)
      have hfl2 : (Y ++ [((u, some ⟨n3 + 1, 0, none⟩) : WA)]).flatMap wcell = Y.flatMap wcell ++ [.slice (some ⟨n3 + 1, 0, none⟩) u.length u.length] := by rw [List.flatMap_append]; rfl
      have hAdd : AddS X (Y ++ [((u, some ⟨n3 + 1, 0, none⟩) : WA)]) u := by
        refine ⟨fun c => ?_, fun hn => ?_, by rw [List.length_append, hYl', if_neg hin]; rfl⟩
        · rw [List.map_append, List.mem_append, hYm]; simp
        · rw [List.map_append, List.nodup_append]
          refine ⟨hYn hn, by simp, fun c hc b hb => ?_⟩
          rw [List.map_cons, List.map_nil, List.mem_singleton] at hb
          rw [hb]
          rintro rfl
          rcases (hYm _).1 hc with h | ⟨h, _⟩
          · exact hin h
          · cases h
      have hfin : ∀ C : AObj, C = .cells ((Y ++ [((u, some ⟨n3 + 1, 0, none⟩) : WA)]).flatMap wcell) 26 true → ∀ B, WS (hset (hset (hset (hset (hset H3 n3 .dead) (n3 + 1) (.cells (u.map (Value.int .i64)) 3 true)) (n3 + 1 + 1) B) y .dead) (n3 + 1 + 1 + 1) C) (some ⟨n3 + 1 + 1 + 1, 0, none⟩) (Y ++ [((u, some ⟨n3 + 1, 0, none⟩) : WA)]) := fun C hC B => by
        subst hC
        refine ws_at (hset_at _ _ _) fun x hx => ?_
        rcases List.mem_append.1 hx with h | h
        · rcases hYx x h with h | ⟨h, _⟩
          · exact (hX.w x h).mono hw (kF _ _ _)
          · cases h
        · rw [List.mem_singleton] at h
          rw [h]; exact wd_own (mc _ _ _)
      repeat refine qqn rfl ?_
      (refine qqr ?_; simp only [SS, qx10, vun, simprocAttr, f0, f7, hlt, ff_77])
      repeat refine qqn rfl ?_
      refine qqm rfl ?_
      repeat refine qqn rfl ?_
      (refine qqr ?_; simp only [SS, qx10, vun, simprocAttr, f6, Bool.not_false, ff_77])
      repeat refine qqn rfl ?_
      refine qqm rfl ?_
      repeat refine qqn rfl ?_
      rcases hur with ⟨h1, h2⟩ | ⟨x, k, cs', ty', own', h1, h2, h3, h4⟩
      · subst h1
        have h2l : u.length = 0 := by rw [h2]; rfl
        have h2m : u.map (Value.int .i64) = [] := by rw [h2]; rfl
        (refine qqr ?_; simp only [SS, qx10, vun, simprocAttr, f1, f5, h2l, hnc, my, c2, bl, hfl, htk, hset_at, hset_hset, Nat.le_refl, List.drop_zero, Nat.mul_one, Nat.zero_mul, Nat.zero_add, List.take_nil, List.drop_nil, List.nil_append, List.take_zero, ff_77])
        repeat (first | refine qqm rfl ?_ | ((first | refine qqr ?_ | refine qqt ?_); simp only [SS, qx10, vun, simprocAttr, ff_77]))
        refine WK.retNil ⟨Or.inr rfl, _, rfl, fun z hz => ((k33 _ _ _).keep z (by omega) (by omega)).trans (k3.keep z hz), ?_⟩
        refine ⟨some ⟨n3 + 1 + 1 + 1, 0, none⟩, Y ++ [((u, some ⟨n3 + 1, 0, none⟩) : WA)], by simp only [List.length_append, List.length_singleton]; rfl, ?_, hAdd⟩
        have e := hfin _ rfl (.cells [.slice (some ⟨n3 + 1, 0, none⟩) u.length u.length] 26 true)
        rw [hfl2, h2m, h2l] at e
        exact e
      · subst h1
        have hxn := live_lt hw3 (live_of h2)
        have q2 : ∀ o, hset H3 n3 o x = _ := fun o => (hset_ne _ _ _ (by omega)).trans h2
        have hcx : [x].contains n3 = false := by simp; omega
        (refine qqr ?_; simp only [SS, qx10, vun, simprocAttr, f1, f5, q2, h3, h4, hcx, bu, my, c2, bl, hfl, htk, hset_at, hset_hset, Nat.le_refl, List.drop_zero, Nat.mul_one, Nat.zero_mul, Nat.zero_add, List.take_nil, List.drop_nil, List.nil_append, List.take_zero, ff_77])
        repeat (first | refine qqm rfl ?_ | ((first | refine qqr ?_ | refine qqt ?_); simp only [SS, qx10, vun, simprocAttr, ff_77]))
        refine WK.retNil ⟨Or.inr rfl, _, rfl, fun z hz => ((k33 _ _ _).keep z (by omega) (by omega)).trans (k3.keep z hz), ?_⟩
        refine ⟨some ⟨n3 + 1 + 1 + 1, 0, none⟩, Y ++ [((u, some ⟨n3 + 1, 0, none⟩) : WA)], by simp only [List.length_append, List.length_singleton]; rfl, ?_, hAdd⟩
        have e := hfin _ rfl (.cells [.slice (some ⟨n3 + 1, 0, none⟩) u.length u.length] 26 true)
        rw [hfl2] at e
        exact e
end Go.Proofs.Ytfbdababcdfjfaa
