/- A part of a proof. Its conditions: none. -/
import Derived.Test.YtfbdababcdfjfaaAmNLfRight
import Derived.Test.YtfbdababcdfjfaaAmNKept
import Derived.Test.YtfbdababcdfjfaaAmC
import Derived.Test.YtfbdababcdfjfaaAmNAtNx14
import Derived.Test.YtfbdababcdfjfaaAmNLfNan
import Derived.Test.YtfbdababcdfjfaaAmNAtPl
import Derived.Test.YtfbdababcdfjfaaAmNAtAlts2
import Derived.Test.YtfbdababcdfjfaaAmNLfBytes
set_option linter.all false
namespace Go.Proofs.Ytfbdababcdfjfaa
open Go.AM
set_option maxRecDepth 100000
def AllUse (g : Gram) : Prop := ∀ r ∈ g.rules, Usd g r.left ∧ ∀ s ∈ r.right, 0 ≤ s → Prd g s
theorem prd_in {g : Gram} (hi : InG g) {v : Int} (h : Prd g v) : 0 ≤ v ∧ v < g.vars.length := by
 cases h with
 | mk i h h1 => exact ⟨hi.left0 _ (List.getElem_mem h), hi.left1 _ (List.getElem_mem h)⟩
theorem hold_of {n : Nat} {p : Int → Prop} (hp : ∀ v, p v → 0 ≤ v ∧ v < n) (v : Int) : hold ((List.range n).map fun i : Nat => @decide (p i) (Classical.propDecidable _)) v ↔ p v := by
 unfold hold
 constructor
 ·rintro ⟨h0, h1⟩
  rw [List.getD_eq_getElem?_getD, List.getElem?_map] at h1
  by_cases hl : v.toNat < n
  ·rw [List.getElem?_range hl] at h1
   simp only [Option.map_some, Option.getD_some, decide_eq_true_eq] at h1
   rwa [Int.toNat_of_nonneg h0] at h1
  ·rw [List.getElem?_eq_none (by simp; omega)] at h1
   simp at h1
 ·intro h
  obtain ⟨h0, h1⟩ := hp v h
  refine ⟨h0, ?_⟩
  rw [List.getD_eq_getElem?_getD, List.getElem?_map, List.getElem?_range (by omega)]
  simp only [Option.map_some, Option.getD_some, decide_eq_true_eq]
  rwa [Int.toNat_of_nonneg h0]
theorem kp_all {g : Gram} (hi : InG g) {us ws : List Bool} (hus : ∀ v, hold us v ↔ Usd g v) (hws : ∀ v, hold ws v ↔ Prd g v) {r : GRule} (hr : r ∈ g.rules) (h : kpB us ws r = true) : Usd g r.left ∧ ∀ s ∈ r.right, 0 ≤ s → Prd g s := by
 unfold kpB at h
 rw [Bool.and_eq_true] at h
 refine ⟨(hus _).1 ⟨hi.left0 r hr, h.1⟩, fun s hs h0 => (hws s).1 ((prdB_hold.1 h.2) s hs h0)⟩
set_option maxHeartbeats 8000000 in
theorem whole12_gives {v : Value} {g : Gram} {n : Nat} {H : Heap} (hw : WF n H) (hg : RG H v g) (wg : WG g) :
  Gives Try.prog 8 [v] n H fun v _ _ => ∃ t : Int, v = .int .i64 t ∧ (t = 0 ∨ t = 1 ∧ RightX g ∧ few g = true ∧ AllUse g) := by
 have hg0 := hg
 obtain ⟨pt, pv, pr, rfl, ht, hv, hr⟩ := hg
 refine Gives.of orders ok8 (Nat.le_of_ble_eq_true rfl) ?_
 have k1 := Kp.new n H (.cells (gcells pt pv pr g) 25 true)
 have hb := hset_at H n (.cells (gcells pt pv pr g) 25 true)
 repeat refine qqn rfl ?_
 (refine qqr ?_; simp only [SS, qx19, vun, simprocAttr, box_cells, box_one, ff_8])
 generalize hset H n (.cells (gcells pt pv pr g) 25 true) = H1 at *
 have hw1 := k1.wf hw
 have hg1 := hg0.mono hw k1
 repeat (first | refine qqm rfl ?_ | ((first | refine qqr ?_ | refine qqt ?_); simp only [SS, qx19, vun, simprocAttr, hb, gc_all, gc_len, ff_8]))
 refine AtCall.by (few_gives hw1 hg1 wg) ?_
 rintro v n2 H2 k2 rfl
 have hw2 := k2.wf hw1
 have hle2 := k2.le
 have hb2 := (k2.keep n (by omega)).trans hb
 have hg2 := hg1.mono hw1 k2
 have k12 := k1.trans k2
 cases hf : few g with
 | false =>
  simp only [SS, qx19, vun, simprocAttr, Bool.not_false, ff_8]
  repeat (first | refine qqm rfl ?_ | ((first | refine qqr ?_ | refine qqt ?_); simp only [SS, qx19, vun, simprocAttr, ff_8]))
  first | refine qqf ?_ ?_ | refine qqg ?_ ?_
  ·exact k12.keep
  ·simp only [packed, qv, Nat.reduceEqDiff, ↓reduceIte, ff_8]
   exact ⟨0, rfl, rfl⟩
 | true =>
  simp only [SS, qx19, vun, simprocAttr, Bool.not_true, hb2, gc_all, gc_len, ff_8]
  refine AtCall.by (rightX_gives hw2 hg2 wg) ?_
  rintro v n3 H3 k3 ⟨t, rfl, hok⟩
  have hw3 := k3.wf hw2
  have hle3 := k3.le
  have hb3 := (k3.keep n (by omega)).trans hb2
  have hg3 := hg2.mono hw2 k3
  have k13 := k12.trans k3
  cases t with
  | false =>
   simp only [SS, qx19, vun, simprocAttr, Bool.not_false, ff_8]
   repeat (first | refine qqm rfl ?_ | ((first | refine qqr ?_ | refine qqt ?_); simp only [SS, qx19, vun, simprocAttr, ff_8]))
   first | refine qqf ?_ ?_ | refine qqg ?_ ?_
   ·exact k13.keep
   ·simp only [packed, qv, Nat.reduceEqDiff, ↓reduceIte, ff_8]
    exact ⟨0, rfl, .inl rfl⟩
  | true =>
   have okx := hok rfl
   have ok := okx.toRightOK
   have hi := ok.inG
   have hrl := ok.rules
   have hus := hold_of (n := g.vars.length) (p := Usd g) fun v h => prd_in hi h.prd
   have hws := hold_of (n := g.vars.length) (p := Prd g) fun v h => prd_in hi h
   generalize hU : ((List.range g.vars.length).map fun i : Nat => @decide (Usd g i) (Classical.propDecidable _)) = us at *
   generalize hW : ((List.range g.vars.length).map fun i : Nat => @decide (Prd g i) (Classical.propDecidable _)) = ws at *
   have hul : us.length = g.vars.length := by rw [← hU]; simp
   have hwl : ws.length = g.vars.length := by rw [← hW]; simp
   simp only [SS, qx19, vun, simprocAttr, Bool.not_true, ff_8]
   repeat (first | refine qqm rfl ?_ | ((first | refine qqr ?_ | refine qqt ?_); simp only [SS, qx19, vun, simprocAttr, hb3, gc_2, ff_8]))
   refine WK.loop (fun kk s => ∃ i : Nat, Kp (n + 1) H1 s.n s.H ∧ s.f 1 = .pointer (some ⟨n, 0, none⟩) ∧ s.f 14 = .int .i64 (g.rules.length : Nat) ∧ s.f 15 = .int .i64 (i : Nat) ∧ i ≤ g.rules.length ∧ (∀ r ∈ g.rules.take i, kpB us ws r = true) ∧ kk = g.rules.length - i) g.rules.length ?_ ?_
   ·exact ⟨0, k2.trans k3, rfl, rfl, rfl, Nat.zero_le _, fun r hr => by simp at hr, rfl⟩
   clear k3 k13 hb3 hg3 hw3 hle3
   rintro kk ⟨f, n3, H3⟩ ⟨i, k3, f1, f14, f15, hil, hkp, rfl⟩ ih
   simp only at k3 f1 f14 f15 ih
   have hw3 := k3.wf hw1
   have hle3 := k3.le
   have hb3 := (k3.keep n (by omega)).trans hb
   have hg3 := hg1.mono hw1 k3
   by_cases hlt : i < g.rules.length
   ·have hiw : IntKind.i64.wrap ((i : Int) + 1) = ((i + 1 : Nat) : Int) := by rw [wrap_in (by omega) (by omega)]; rfl
    repeat (first | refine qqm rfl ?_ | ((first | refine qqr ?_ | refine qqt ?_); simp only [SS, qx19, vun, simprocAttr, f1, f14, f15, hlt, hb3, gc_all, gc_len, ff_8]))
    refine AtCall.by (kept_gives hw3 hg3 wg ok hlt hul hwl hus hws) ?_
    rintro v n4 H4 k4 rfl
    cases hk : kpB us ws g.rules[i] with
    | false =>
     simp only [SS, qx19, vun, simprocAttr, Bool.not_false, ff_8]
     repeat (first | refine qqm rfl ?_ | ((first | refine qqr ?_ | refine qqt ?_); simp only [SS, qx19, vun, simprocAttr, ff_8]))
     first | refine qqf ?_ ?_ | refine qqg ?_ ?_
     ·exact (k1.trans (k3.trans k4)).keep
     ·simp only [packed, qv, Nat.reduceEqDiff, ↓reduceIte, ff_8]
      exact ⟨0, rfl, .inl rfl⟩
    | true =>
     simp only [SS, qx19, vun, simprocAttr, Bool.not_true, ff_8]
     repeat (first | refine qqm rfl ?_ | ((first | refine qqr ?_ | refine qqt ?_); simp only [SS, qx19, vun, simprocAttr, f15, hiw, ff_8]))
     refine ih (g.rules.length - (i + 1)) (by omega) _ ⟨i + 1, k3.trans k4, f1, f14, rfl, hlt, fun r hr => ?_, rfl⟩
     rw [List.take_succ_eq_append_getElem hlt] at hr
     rcases List.mem_append.1 hr with hr | hr
     ·exact hkp r hr
     ·rw [List.mem_singleton] at hr; rw [hr]; exact hk
   ·rw [List.take_of_length_le (by omega)] at hkp
    repeat (first | refine qqm rfl ?_ | ((first | refine qqr ?_ | refine qqt ?_); simp only [SS, qx19, vun, simprocAttr, f1, f14, f15, hlt, ff_8]))
    first | refine qqf ?_ ?_ | refine qqg ?_ ?_
    ·exact (k1.trans k3).keep
    ·simp only [packed, qv, Nat.reduceEqDiff, ↓reduceIte, ff_8]
     exact ⟨1, rfl, .inr ⟨rfl, okx, fun r hr => kp_all hi hus hws hr (hkp r hr)⟩⟩
end Go.Proofs.Ytfbdababcdfjfaa

namespace Go.Proofs.Ytfbdababcdfjfaa
open Go.AM
set_option maxRecDepth 100000
theorem startL_mem (g : Gram) (v : Int) : ∀ x ∈ startL g v, x.2 = none ∧ x.1.stack = [] ∧ GC g x.1 := by
 intro x hx
 unfold startL at hx
 split at hx
 case isFalse => simp at hx
 obtain ⟨r, hr, rfl⟩ := List.mem_map.1 hx
 unfold ruleIx at hr
 have hr1 := List.mem_range.1 (List.mem_filter.1 hr).1
 exact ⟨rfl, rfl, ⟨by show (r : Int) < _; omega, fun q _ _ => ⟨Int.le_refl _, by show (0 : Int) ≤ _; omega⟩⟩, fun s hs => by simp at hs⟩
theorem startL_len (g : Gram) (v : Int) : (startL g v).length ≤ g.rules.length := by
 unfold startL
 split
 ·rw [List.length_map]
  unfold ruleIx
  exact Nat.le_trans (List.length_filter_le _ _) (by rw [List.length_range]; exact Nat.le_refl _)
 ·exact Nat.zero_le _
end Go.Proofs.Ytfbdababcdfjfaa

namespace Go.Proofs.Ytfbdababcdfjfaa
open Go.AM
set_option maxRecDepth 100000
theorem low_mask (a : Int) (m : Nat) (hm : m < 256) : ∃ j : Nat, j ≤ m ∧ IntKind.i64.wrap ((BitVec.ofInt IntKind.i64.bits a &&& BitVec.ofInt IntKind.i64.bits (m : Int)).toNat : Int) = (j : Int) := by
 have h : (BitVec.ofInt 64 a &&& BitVec.ofInt 64 (m : Int)).toNat ≤ m := by
  rw [BitVec.toNat_and]
  have : (BitVec.ofInt 64 (m : Int)).toNat = m := by
   rw [BitVec.toNat_ofInt]; omega
  rw [this]
  exact Nat.and_le_right
 refine ⟨(BitVec.ofInt 64 a &&& BitVec.ofInt 64 (m : Int)).toNat, h, ?_⟩
 show IntKind.i64.wrap (((BitVec.ofInt 64 a &&& BitVec.ofInt 64 (m : Int)).toNat : Nat) : Int) = _
 rw [wrap_in (by omega) (by omega)]
theorem less_self4 : ∀ a : List Int, less a a = false
 | [] => rfl
 | x :: a => by show (if x = x then less a a else decide (x < x)) = false; rw [if_pos rfl, less_self4 a]
theorem same_self4 (a : List Int) : same a a = true := by unfold same; rw [less_self4]; rfl
theorem step_alt {g : Gram} {cl : List (List (Int × Int))} {c d : Cfg} (h : d ∈ stepL g cl c) : d.alt = c.alt := by
 unfold stepL at h
 split at h
 ·simp at h
 split at h
 ·simp at h
 split at h
 ·unfold backL at h
  split at h
  ·rw [List.mem_singleton] at h
   rw [h]
  ·split at h
   ·simp at h
   ·rcases List.mem_append.1 h with h | h
    ·split at h
     ·rw [List.mem_singleton] at h; rw [h]
     ·simp at h
    ·obtain ⟨s, _, rfl⟩ := List.mem_map.1 h
     rfl
 ·split at h
  ·simp at h
  ·split at h
   ·obtain ⟨i, _, rfl⟩ := List.mem_map.1 h
    rfl
   ·simp at h
theorem RchC.alt {g : Gram} {cl : List (List (Int × Int))} {l : List Cfg} {c : Cfg} {P : Int → Prop} (h : RchC g cl l c) (hl : ∀ c ∈ l, P c.alt) : P c.alt := by
 induction h with
 | base h => exact hl _ h
 | step _ k ih => rw [step_alt k]; exact ih
theorem sp_row {H : Heap} {p : Option Addr} {l : List Int} (h : RS (Value.int .i64) H p l) : (p = none ∧ l = []) ∨ ∃ x k cs ty own, p = some ⟨x, k, none⟩ ∧ H x = .cells cs ty own ∧ k + l.length ≤ cs.length ∧ (cs.drop k).take l.length = l.map (Value.int .i64) := by
 rcases h with h | ⟨x, k, cs, ty, own, e1, e2, e3, e4⟩
 ·exact .inl h
 ·refine .inr ⟨x, k, cs, ty, own, e1, e2, e3, ?_⟩
  apply List.ext_getElem?
  intro i
  rw [List.getElem?_take, List.getElem?_drop, List.getElem?_map]
  by_cases hi : i < l.length
  ·rw [if_pos hi, e4 i _ (List.getElem?_eq_getElem hi), List.getElem?_eq_getElem hi]; rfl
  ·rw [if_neg hi, List.getElem?_eq_none (by omega)]; rfl
structure BothC (g : Gram) (H : Heap) (deep most : Nat) (l : List Cfg) (pa pb : Option Addr) (A B : List CA) : Prop where
 ra : RN 4 ccell H pa A
 rb : RN 4 ccell H pb B
 xa : ∀ z ∈ A, XC H z
 xb : ∀ z ∈ B, XD H z
 eq : A.map (·.1) = B.map (·.1)
 srt : Srt A
 len : A.length ≤ most
 dp : ∀ z ∈ A, z.1.stack.length ≤ deep
 rch : ∀ z ∈ A, RchC g (callsL g) l z.1
theorem BothC.mono {g : Gram} {H H' : Heap} {n n' deep most : Nat} {l : List Cfg} {pa pb : Option Addr} {A B : List CA} (h : BothC g H deep most l pa pb A B) (hw : WF n H) (k : Kp n H n' H') : BothC g H' deep most l pa pb A B :=
 ⟨h.ra.mono hw k, h.rb.mono hw k, fun z hz => (h.xa z hz).keep (Kp.spk hw k), fun z hz => (h.xb z hz).kp hw k, h.eq, h.srt, h.len, h.dp, h.rch⟩
theorem BothC.memB {g : Gram} {H : Heap} {deep most : Nat} {l : List Cfg} {pa pb : Option Addr} {A B : List CA} (h : BothC g H deep most l pa pb A B) {P : Cfg → Prop} (hP : ∀ z ∈ A, P z.1) : ∀ z ∈ B, P z.1 := fun z hz => by
 have h1 : z.1 ∈ A.map (·.1) := by rw [h.eq]; exact List.mem_map.2 ⟨z, hz, rfl⟩
 obtain ⟨q, hq, e⟩ := List.mem_map.1 h1
 rw [← e]; exact hP q hq
theorem BothC.lenB {g : Gram} {H : Heap} {deep most : Nat} {l : List Cfg} {pa pb : Option Addr} {A B : List CA} (h : BothC g H deep most l pa pb A B) : B.length = A.length := by
 have := congrArg List.length h.eq; simpa using this.symm
theorem BothC.at {g : Gram} {H : Heap} {deep most : Nat} {l : List Cfg} {pa pb : Option Addr} {A B : List CA} (h : BothC g H deep most l pa pb A B) {i : Nat} (hi : i < A.length) : (B[i]'(by rw [h.lenB]; exact hi)).1 = A[i].1 := by
 have hl := h.lenB
 have h1 : (A.map (·.1))[i]'(by rw [List.length_map]; omega) = (B.map (·.1))[i]'(by rw [List.length_map]; omega) := by simp only [h.eq]
 simpa using h1.symm
theorem both_of {g : Gram} {H1 H2 : Heap} {n1 n2 deep most : Nat} {l : List Cfg} {v1 v2 : Value} {b : Bool} {S : List CA} (hw : WF n1 H1) (k : Kp n1 H1 n2 H2) (hclo : Clo g (callsL g) deep most l b S)
  (h1 : (b = false ∧ v1 = .tuple #[.slice none 0 0, .bool false]) ∨ (b = true ∧ Srt S ∧ S.length ≤ most ∧ (∀ x ∈ S, x.1.stack.length ≤ deep) ∧ (∀ x ∈ S, GC g x.1) ∧ ∃ p' R, R = S.filter (fun x => !idle g x.1) ∧ v1 = .tuple #[.slice p' R.length R.length, .bool true] ∧ RN 4 ccell H1 p' R ∧ ∀ x ∈ R, XC H1 x))
  (h2 : C14 g deep most l v2 H2) : ∃ t pa pb A B, v1 = .tuple #[.slice pa A.length A.length, .bool t] ∧ v2 = .tuple #[.slice pb B.length B.length, .bool t] ∧ BothC g H2 deep most l pa pb A B := by
 have hs := hclo.spec
 rcases h1 with ⟨rfl, rfl⟩ | ⟨rfl, hS, hSm, hSd, hSg, p', R, hR, rfl, hp, hx⟩
 ·have hsh := hs.2 rfl
  rcases h2 with ⟨rfl, _⟩ | ⟨y, S2, A, _, _, _, _, hf, _⟩
  ·exact ⟨false, none, none, [], [], rfl, rfl, .inl ⟨rfl, rfl⟩, .inl ⟨rfl, rfl⟩, fun z hz => (by cases hz), fun z hz => (by cases hz), rfl, List.Pairwise.nil, Nat.zero_le _, fun z hz => (by cases hz), fun z hz => (by cases hz)⟩
  ·exact (hf.not hsh).elim
 ·have hfu := hs.1 rfl
  rcases h2 with ⟨_, hsh⟩ | ⟨y, S2, A, rfl, hy, hx2, hS2, hf, hm2⟩
  ·exact (hfu.not hsh).elim
  ·have hRs : Srt R := by rw [hR]; exact List.Pairwise.filter _ hS
   have hmR : ∀ x ∈ R, x ∈ S ∧ idle g x.1 = false := fun x hx => by
    rw [hR, List.mem_filter] at hx
    exact ⟨hx.1, by simpa using hx.2⟩
   have hmem : ∀ c, c ∈ R.map (·.1) ↔ c ∈ S2.map (·.1) := fun c => by
    rw [hm2, hf.mem, ← hfu.mem]
    constructor
    ·intro h
     obtain ⟨z, hz, rfl⟩ := List.mem_map.1 h
     obtain ⟨h1, h2⟩ := hmR z hz
     exact ⟨List.mem_map.2 ⟨z, h1, rfl⟩, h2⟩
    ·rintro ⟨h1, h2⟩
     obtain ⟨z, hz, rfl⟩ := List.mem_map.1 h1
     refine List.mem_map.2 ⟨z, ?_, rfl⟩
     rw [hR, List.mem_filter]
     exact ⟨hz, by rw [h2]; rfl⟩
   refine ⟨true, p', some ⟨y, 0, none⟩, R, S2, rfl, rfl, hp.mono hw k, ?_, fun z hz => (hx z hz).keep (Kp.spk hw k), hx2, srt_same hRs hS2 hmem, hRs, ?_, fun z hz => hSd z (hmR z hz).1, fun z hz => (hfu.mem _).1 (List.mem_map.2 ⟨z, (hmR z hz).1, rfl⟩)⟩
   ·exact .inr ⟨y, 0, _, _, true, rfl, hy, by rw [fm_len ccell_len]; omega, by rw [List.drop_zero]; exact List.take_of_length_le (by rw [fm_len ccell_len]; omega)⟩
   ·rw [hR]; exact Nat.le_trans (List.length_filter_le _ _) hSm
end Go.Proofs.Ytfbdababcdfjfaa
