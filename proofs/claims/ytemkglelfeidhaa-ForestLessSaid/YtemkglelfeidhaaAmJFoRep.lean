/- A part of a proof. Its conditions: none. -/
import Derived.Test.YtemkglelfeidhaaAmJFacts
import Derived.Test.YtemkglelfeidhaaAmC
import Derived.Test.YtemkglelfeidhaaAmD
set_option linter.all false
namespace Go.Proofs.Ytemkglelfeidhaa
open Go.AM
set_option maxRecDepth 100000
theorem isVar_gives (x : Int) (n : Nat) (H : Heap) : Gives Try.prog 54 [.int .i64 x] n H fun v n' H' => v = .bool (decide (0 ≤ x)) ∧ n' = n ∧ H' = H := by
  refine Gives.of orders ok54 (Nat.le_of_ble_eq_true rfl) ?_
  repeat (first | refine qqn rfl ?_ | ((first | (refine WK.rgn ?_ ?_; kernel_rfl) | refine AtCall.now ?_); simp (config := {maxSteps:=999999}) only [SS, qx22, forall_const, simprocAttr]) | refine qqj rfl ?_ | refine qqk rfl ?_)
  (first | refine WK.retNil ⟨Or.inr rfl, _, rfl, ?_, ?_⟩ | refine WK.skipNil ⟨Or.inl rfl, _, rfl, ?_, ?_⟩)
  · exact fun _ _ => rfl
  · simp only [packed, fset_apply, Nat.reduceEqDiff, ↓reduceIte, List.getD_cons_zero, List.getD_cons_succ]
    simp
def countR (l : List GRule) (x : Int) : Nat := (l.filter fun r => decide (r.left = x)).length
theorem count_gives {v : Value} {g : Gram} {x : Int} {n : Nat} {H : Heap} (hw : WF n H) (hg : RG H v g) (wg : WG g) :
    Gives Try.prog 24 [v, .int .i64 x] n H fun v _ _ => v = .int .i64 (countR g.rules x) := by
  obtain ⟨pt, pv, pr, rfl, ht, hv, hr⟩ := hg
  refine Gives.of orders ok24 (Nat.le_of_ble_eq_true rfl) ?_
  have hk := Kp.new n H (.cells (gcells pt pv pr g) 25 true)
  replace hr := hr.mono hw hk
  have hb := hset_at H n (.cells (gcells pt pv pr g) 25 true)
  repeat (first | refine qqn rfl ?_)
  (refine WK.rgn ?_ ?_; kernel_rfl; simp (config := {maxSteps:=999999}) only [SS, qx14, forall_const, simprocAttr, box_cells, box_one, ff_24])
  repeat (first | refine qqn rfl ?_)
  generalize hset H n (.cells (gcells pt pv pr g) 25 true) = H1 at *
  repeat (first | refine qqn rfl ?_ | ((first | (refine WK.rgn ?_ ?_; kernel_rfl) | refine AtCall.now ?_); simp (config := {maxSteps:=999999}) only [SS, qx14, forall_const, simprocAttr, ff_24]) | refine qqj rfl ?_ | refine qqk rfl ?_)
  have hl := wg.rules
  unfold maxL at hl
  refine WK.loop (fun k s => ∃ i c, s.n = n + 1 ∧ s.H = H1 ∧ s.f 1 = .int .i64 x ∧ s.f 2 = .pointer (some ⟨n, 0, none⟩) ∧ s.f 5 = .int .i64 (c : Nat) ∧ s.f 6 = .int .i64 (i : Nat) ∧ i ≤ g.rules.length ∧ c ≤ i ∧ k = g.rules.length - i ∧ c = countR (g.rules.take i) x) g.rules.length ?_ ?_
  · exact ⟨0, 0, rfl, rfl, rfl, rfl, rfl, rfl, Nat.zero_le _, Nat.zero_le _, rfl, rfl⟩
  rintro k ⟨f, n', H'⟩ ⟨i, c, rfl, rfl, f1, f2, f5, f6, hi, hci, rfl, hc⟩ ih
  simp only at f1 f2 f5 f6 ih hr hb
  by_cases hir : i < g.rules.length
  · obtain ⟨y, k, cs, ty, own, p, rfl, hx, c0, c1, c2, hp⟩ := hr.at hir
    have ht : g.rules.take (i + 1) = g.rules.take i ++ [g.rules[i]] := List.take_succ_eq_append_getElem hir
    by_cases he : g.rules[i].left = x
    · repeat (first | refine qqn rfl ?_ | ((first | (refine WK.rgn ?_ ?_; kernel_rfl) | refine AtCall.now ?_); simp (config := {maxSteps:=999999}) only [SS, qx14, forall_const, simprocAttr, f1, f2, f5, f6, hb, gc_2, hir, hx, c0, he, ff_24]) | refine qqj rfl ?_ | refine qqk rfl ?_)
      refine ih (g.rules.length - (i + 1)) (by omega) _ ⟨i + 1, c + 1, rfl, rfl, f1, f2, ?_, ?_, hir, by omega, rfl, ?_⟩
      · simp only [packed, fset_apply, Nat.reduceEqDiff, ↓reduceIte, List.getD_cons_zero, List.getD_cons_succ, ff_24]
        rw [wrap_in (by omega) (by omega)]; rfl
      · simp only [packed, fset_apply, Nat.reduceEqDiff, ↓reduceIte, List.getD_cons_zero, List.getD_cons_succ, f6, ff_24]
        rw [wrap_in (by omega) (by omega)]; rfl
      · rw [ht, hc]; unfold countR; rw [List.filter_append, List.length_append]; simp [he]
    · repeat (first | refine qqn rfl ?_ | ((first | (refine WK.rgn ?_ ?_; kernel_rfl) | refine AtCall.now ?_); simp (config := {maxSteps:=999999}) only [SS, qx14, forall_const, simprocAttr, f1, f2, f5, f6, hb, gc_2, hir, hx, c0, he, ff_24]) | refine qqj rfl ?_ | refine qqk rfl ?_)
      refine ih (g.rules.length - (i + 1)) (by omega) _ ⟨i + 1, c, rfl, rfl, f1, f2, f5, ?_, hir, by omega, rfl, ?_⟩
      · simp only [packed, fset_apply, Nat.reduceEqDiff, ↓reduceIte, List.getD_cons_zero, List.getD_cons_succ, ff_24]
        rw [wrap_in (by omega) (by omega)]; rfl
      · rw [ht, hc]; unfold countR; rw [List.filter_append, List.length_append]; simp [he]
  · repeat (first | refine qqn rfl ?_ | ((first | (refine WK.rgn ?_ ?_; kernel_rfl) | refine AtCall.now ?_); simp (config := {maxSteps:=999999}) only [SS, qx14, forall_const, simprocAttr, f1, f2, f5, f6, hb, gc_2, hir, ff_24]) | refine qqj rfl ?_ | refine qqk rfl ?_)
    (first | refine WK.retNil ⟨Or.inr rfl, _, rfl, ?_, ?_⟩ | refine WK.skipNil ⟨Or.inl rfl, _, rfl, ?_, ?_⟩)
    · exact hk.keep
    · simp only [packed, fset_apply, Nat.reduceEqDiff, ↓reduceIte, List.getD_cons_zero, List.getD_cons_succ, f5, ff_24]
      rw [List.take_of_length_le (by omega)] at hc
      rw [hc]
def usesR (l : List GRule) (x : Int) : Bool := l.any fun r => r.right.any fun s => decide (s = x)
theorem uses_gives {v : Value} {g : Gram} {x : Int} {n : Nat} {H : Heap} (hw : WF n H) (hg : RG H v g) (wg : WG g) :
    Gives Try.prog 25 [v, .int .i64 x] n H fun v _ _ => v = .bool (usesR g.rules x) := by
  obtain ⟨pt, pv, pr, rfl, ht, hv, hr⟩ := hg
  refine Gives.of orders ok25 (Nat.le_of_ble_eq_true rfl) ?_
  have hk := Kp.new n H (.cells (gcells pt pv pr g) 25 true)
  replace hr := hr.mono hw hk
  have hb := hset_at H n (.cells (gcells pt pv pr g) 25 true)
  repeat (first | refine qqn rfl ?_)
  (refine WK.rgn ?_ ?_; kernel_rfl; simp (config := {maxSteps:=999999}) only [SS, qx14, forall_const, simprocAttr, box_cells, box_one, ff_25])
  repeat (first | refine qqn rfl ?_)
  generalize hset H n (.cells (gcells pt pv pr g) 25 true) = H1 at *
  repeat (first | refine qqn rfl ?_ | ((first | (refine WK.rgn ?_ ?_; kernel_rfl) | refine AtCall.now ?_); simp (config := {maxSteps:=999999}) only [SS, qx14, forall_const, simprocAttr, ff_25]) | refine qqj rfl ?_ | refine qqk rfl ?_)
  have hl := wg.rules
  unfold maxL at hl
  refine WK.loop (fun k s => ∃ i, s.n = n + 1 ∧ s.H = H1 ∧ s.f 1 = .int .i64 x ∧ s.f 2 = .pointer (some ⟨n, 0, none⟩) ∧ s.f 5 = .int .i64 (i : Nat) ∧ i ≤ g.rules.length ∧ k = g.rules.length - i ∧ usesR (g.rules.take i) x = false) g.rules.length ?_ ?_
  · exact ⟨0, rfl, rfl, rfl, rfl, rfl, Nat.zero_le _, rfl, rfl⟩
  rintro k ⟨f, n', H'⟩ ⟨i, rfl, rfl, f1, f2, f5, hi, rfl, hc⟩ ih
  simp only at f1 f2 f5 ih hr hb
  by_cases hir : i < g.rules.length
  · obtain ⟨y, k, cs, ty, own, p, rfl, hx, c0, c1, c2, hp⟩ := hr.at hir
    have ht : g.rules.take (i + 1) = g.rules.take i ++ [g.rules[i]] := List.take_succ_eq_append_getElem hir
    obtain ⟨hrl, _⟩ := wg.right _ (List.getElem_mem hir)
    unfold maxL at hrl
    repeat (first | refine qqn rfl ?_ | ((first | (refine WK.rgn ?_ ?_; kernel_rfl) | refine AtCall.now ?_); simp (config := {maxSteps:=999999}) only [SS, qx14, forall_const, simprocAttr, f1, f2, f5, hb, gc_2, hir, ff_25]) | refine qqj rfl ?_ | refine qqk rfl ?_)
    refine WK.loop (fun k s => ∃ j, s.n = n + 1 ∧ s.H = H' ∧ s.f 1 = .int .i64 x ∧ s.f 2 = .pointer (some ⟨n, 0, none⟩) ∧ s.f 5 = .int .i64 (i : Nat) ∧ s.f 6 = .int .i64 (j : Nat) ∧ j ≤ g.rules[i].right.length ∧ k = g.rules[i].right.length - j ∧ (g.rules[i].right.take j).any (fun s => decide (s = x)) = false) g.rules[i].right.length ?_ ?_
    · exact ⟨0, rfl, rfl, f1, f2, f5, rfl, Nat.zero_le _, rfl, rfl⟩
    rintro k' ⟨f', n', H'⟩ ⟨j, rfl, rfl, f1, f2, f5, f6, hj, rfl, hcj⟩ ih2
    simp only at f1 f2 f5 f6 ih2 ih hr hb hx hp
    by_cases hjr : j < g.rules[i].right.length
    · obtain ⟨z, kz, ds, tz, oz, rfl, hz, e⟩ := hp.at hjr
      have htj : g.rules[i].right.take (j + 1) = g.rules[i].right.take j ++ [g.rules[i].right[j]] := List.take_succ_eq_append_getElem hjr
      by_cases he : g.rules[i].right[j] = x
      · repeat (first | refine qqn rfl ?_ | ((first | (refine WK.rgn ?_ ?_; kernel_rfl) | refine AtCall.now ?_); simp (config := {maxSteps:=999999}) only [SS, qx14, forall_const, simprocAttr, f1, f2, f5, f6, hb, gc_2, hir, hx, c1, hjr, hz, e, he, ff_25]) | refine qqj rfl ?_ | refine qqk rfl ?_)
        (first | refine WK.retNil ⟨Or.inr rfl, _, rfl, ?_, ?_⟩ | refine WK.skipNil ⟨Or.inl rfl, _, rfl, ?_, ?_⟩)
        · exact hk.keep
        · simp only [packed, fset_apply, Nat.reduceEqDiff, ↓reduceIte, List.getD_cons_zero, List.getD_cons_succ, ff_25]
          have : usesR g.rules x = true := by
            simp only [usesR, List.any_eq_true]
            exact ⟨_, List.getElem_mem hir, _, List.getElem_mem hjr, by simpa using he⟩
          rw [this]
      · repeat (first | refine qqn rfl ?_ | ((first | (refine WK.rgn ?_ ?_; kernel_rfl) | refine AtCall.now ?_); simp (config := {maxSteps:=999999}) only [SS, qx14, forall_const, simprocAttr, f1, f2, f5, f6, hb, gc_2, hir, hx, c1, hjr, hz, e, he, ff_25]) | refine qqj rfl ?_ | refine qqk rfl ?_)
        refine ih2 (g.rules[i].right.length - (j + 1)) (by omega) _ ⟨j + 1, rfl, rfl, f1, f2, f5, ?_, hjr, rfl, ?_⟩
        · simp only [packed, fset_apply, Nat.reduceEqDiff, ↓reduceIte, List.getD_cons_zero, List.getD_cons_succ, ff_25]
          rw [wrap_in (by omega) (by omega)]; rfl
        · rw [htj, List.any_append, hcj]; simp [he]
    · repeat (first | refine qqn rfl ?_ | ((first | (refine WK.rgn ?_ ?_; kernel_rfl) | refine AtCall.now ?_); simp (config := {maxSteps:=999999}) only [SS, qx14, forall_const, simprocAttr, f1, f2, f5, f6, hb, gc_2, hir, hx, c1, hjr, ff_25]) | refine qqj rfl ?_ | refine qqk rfl ?_)
      refine ih (g.rules.length - (i + 1)) (by omega) _ ⟨i + 1, rfl, rfl, f1, f2, ?_, hir, rfl, ?_⟩
      · simp only [packed, fset_apply, Nat.reduceEqDiff, ↓reduceIte, List.getD_cons_zero, List.getD_cons_succ, ff_25]
        rw [wrap_in (by omega) (by omega)]; rfl
      · rw [List.take_of_length_le (by omega)] at hcj
        rw [ht]; simp only [usesR, List.any_append, List.any_cons, List.any_nil, hcj] at hc ⊢
        simpa using hc
  · repeat (first | refine qqn rfl ?_ | ((first | (refine WK.rgn ?_ ?_; kernel_rfl) | refine AtCall.now ?_); simp (config := {maxSteps:=999999}) only [SS, qx14, forall_const, simprocAttr, f1, f2, f5, hb, gc_2, hir, ff_25]) | refine qqj rfl ?_ | refine qqk rfl ?_)
    (first | refine WK.retNil ⟨Or.inr rfl, _, rfl, ?_, ?_⟩ | refine WK.skipNil ⟨Or.inl rfl, _, rfl, ?_, ?_⟩)
    · exact hk.keep
    · simp only [packed, fset_apply, Nat.reduceEqDiff, ↓reduceIte, List.getD_cons_zero, List.getD_cons_succ, ff_25]
      rw [List.take_of_length_le (by omega)] at hc
      rw [hc]
end Go.Proofs.Ytemkglelfeidhaa

namespace Go.Proofs.Ytemkglelfeidhaa
open Go.AM Go.AM.Fo Go.RowKit
set_option maxRecDepth 100000
theorem wrap_up {i m : Nat} (h : i < m) (hm : m ≤ maxL) : IntKind.i64.wrap ((i : Int) + 1) = ((i + 1 : Nat) : Int) := by
  unfold maxL at hm
  rw [wrap_in (by omega) (by omega)]; rfl
def ndC (x : Nd) : List Value := [.int .i64 x.1, .int .i64 (x.2.1 : Nat), .int .i64 (x.2.2 : Nat)]
def ndV (x : Nd) : Value := .agg (ndC x).toArray
theorem tk3 (x y z : Value) : List.take 3 (List.drop 0 [x, y, z]) = [x, y, z] := rfl
theorem tk4 (x y z : Value) : List.take 3 [x, y, z] = [x, y, z] := rfl
theorem sp3 (x : Nd) : AM.splice [Value.int .i64 (Int.ofNat 0), .int .i64 (Int.ofNat 0), .int .i64 (Int.ofNat 0)] 0 (ndC x) = ndC x := rfl
def smN (x : Nd) : Prop := -1000000 ≤ x.1 ∧ x.1 ≤ 1000000 ∧ x.2.1 ≤ 1000000 ∧ x.2.2 ≤ 1000000
theorem ndC_len (x : Nd) : (ndC x).length = 3 := rfl
theorem ndC_all (x : Nd) : ((ndC x).drop 0).take 3 = ndC x := rfl
theorem ndC_one (x : Nd) : (ndC x).all one = true := rfl
theorem ndC_cells (x : Nd) : vcells (.agg (ndC x).toArray) = ndC x := rfl
theorem ndC_0 (x : Nd) : (ndC x)[0]? = some (.int .i64 x.1) := rfl
theorem ndC_1 (x : Nd) : (ndC x)[1]? = some (.int .i64 (x.2.1 : Nat)) := rfl
theorem ndC_2 (x : Nd) : (ndC x)[2]? = some (.int .i64 (x.2.2 : Nat)) := rfl
noncomputable def fsN : Array Field := match Try.prog.underlying 67 with
  | some (.struct fs) => fs
  | _ => #[]
theorem wf_small {n : Int} (h1 : -1000000 ≤ n) (h2 : n ≤ 1000000) : (Lit.int .i64 n).wf = true := by
  have h3 : IntKind.min .i64 = -9223372036854775808 := rfl
  have h4 : IntKind.max .i64 = 9223372036854775807 := rfl
  unfold Lit.wf
  simp only [h3, h4, Bool.and_eq_true, decide_eq_true_eq]
  omega
theorem gkN : GK Try.prog 67 ndV smN where
  wide := by kernel_rfl
  ok := fun x h => ⟨rfl, keyOf_3 (fs := fsN) (ti := 3) (by kernel_rfl) (by kernel_rfl) (by kernel_rfl) (Nat.lt_of_lt_of_le Nat.zero_lt_one (Nat.le_of_ble_eq_true (by kernel_rfl))) (by kernel_rfl) (by kernel_rfl) (by kernel_rfl) (by kernel_rfl)
    (wf_small h.1 h.2.1) (wf_small (by omega) (by have := h.2.2.1; omega)) (wf_small (by omega) (by have := h.2.2.2; omega))⟩
  inj := fun a b _ _ e => by
    unfold ndV ndC at e
    simp at e
    exact Prod.ext e.1 (Prod.ext (by omega) (by omega))
theorem und_mn : Try.prog.underlying 62 = some (.map 67 3) := by kernel_rfl
theorem zero_int : (Try.prog.info? 3).bind (·.zero) = some (.int .i64 0) := by kernel_rfl
def foC (pt pv pr : Option Addr) (g : Gram) (pw : Option Addr) (w : List Int) (m : Nat) : List Value := gcells pt pv pr g ++ [.slice pw w.length w.length, .map (some m)]
section
variable (pt pv pr : Option Addr) (g : Gram) (pw : Option Addr) (w : List Int) (m : Nat)
theorem fo_2 : (foC pt pv pr g pw w m)[2]? = some (.slice pr g.rules.length g.rules.length) := rfl
theorem fo_3 : (foC pt pv pr g pw w m)[3]? = some (.slice pw w.length w.length) := rfl
theorem fo_4 : (foC pt pv pr g pw w m)[4]? = some (.map (some m)) := rfl
theorem fo_len : (foC pt pv pr g pw w m).length = 5 := rfl
theorem fo_g : ((foC pt pv pr g pw w m).drop 0).take 3 = gcells pt pv pr g := rfl
end
def valN (rd : Nd → Nat) (x : Nd) : Value := .int .i64 (rd x : Nat)
structure MR (H : Heap) (m : Nat) (ks : List Nd) (rd : Nd → Nat) : Prop where
  m : H m = .map (vE ndV (valN rd) ks 0) ks.length 67
  nd : ks.Nodup
  mem : ∀ x, x ∈ ks ↔ rd x ≠ 0
  sm : ∀ x, x ∈ ks → smN x
structure FO (H : Heap) (fo m : Nat) (pt pv pr pw : Option Addr) (g : Gram) (w : List Int) : Prop where
  f : H fo = .cells (foC pt pv pr g pw w m) 64 true
  r : RR H pr g.rules
  w : RA (Value.int .i64) H pw w
theorem FO.mono {n n' : Nat} {H H' : Heap} {fo m : Nat} {pt pv pr pw : Option Addr} {g : Gram} {w : List Int} (h : FO H fo m pt pv pr pw g w) (hw : WF n H) (hk : Kp n H n' H') : FO H' fo m pt pv pr pw g w :=
  ⟨by rw [hk.keep _ (live_lt hw (by rw [h.f]; intro e; cases e))]; exact h.f, h.r.mono hw hk, h.w.mono hw hk⟩
theorem MR.mono {n n' : Nat} {H H' : Heap} {m : Nat} {ks : List Nd} {rd : Nd → Nat} (h : MR H m ks rd) (hw : WF n H) (hk : Kp n H n' H') : MR H' m ks rd :=
  ⟨by rw [hk.keep _ (live_lt hw (by rw [h.m]; intro e; cases e))]; exact h.m, h.nd, h.mem, h.sm⟩
theorem MR.look {H : Heap} {m : Nat} {ks : List Nd} {rd : Nd → Nat} (h : MR H m ks rd) {x : Nd} (hx : smN x) : alookup Try.prog 62 H (.map (some m)) (ndV x) false = some { v := .int .i64 (rd x : Nat), rd := [m] } := by
  by_cases hm : x ∈ ks
  · exact gkN.vyes hx h.sm hm und_mn h.m false
  · have h0 : rd x = 0 := Classical.byContradiction fun hn => hm ((h.mem x).2 hn)
    rw [h0]
    exact gkN.vno hx h.sm hm und_mn zero_int rfl h.m false
structure Sgm (g : Gram) : Prop where
  ing : InG g
  rules : g.rules.length ≤ 24
  vars : g.vars.length ≤ 8
  r8 : ∀ r ∈ g.rules, r.right.length ≤ 8
  t6 : g.terms.length ≤ 6
  up : ∀ i j (hi : i < g.rules.length) (hj : j < g.rules.length), i ≤ j → g.rules[i].left ≤ g.rules[j].left
theorem Sgm.sym {g : Gram} (h : Sgm g) {r : GRule} (hr : r ∈ g.rules) {s : Int} (hs : s ∈ r.right) : -100 ≤ s ∧ s < 8 := by
  have h1 := h.ing.right r hr s hs
  have h2 := h.ing.rightT r hr s hs
  have h3 := h.vars
  have h4 := h.t6
  omega
theorem Sgm.lft {g : Gram} (h : Sgm g) {r : GRule} (hr : r ∈ g.rules) : 0 ≤ r.left ∧ r.left < 8 := by
  have h1 := h.ing.left0 r hr
  have h2 := h.ing.left1 r hr
  have h3 := h.vars
  omega
theorem Sgm.sml {g : Gram} (h : Sgm g) {w : List Int} (hw : w.length ≤ 10) : Sml g w := ⟨h.vars, fun r => by
  unfold rgt
  cases hr : g.rules[r]? with
  | none => simp
  | some x => simpa using h.r8 x (List.mem_of_getElem? hr), hw⟩
set_option maxHeartbeats 4000000 in
theorem fits_gives {fo m : Nat} {pt pv pr pw : Option Addr} {g : Gram} {w : List Int} {ks : List Nd} {rd : Nd → Nat} {n : Nat} {H : Heap} (hf : FO H fo m pt pv pr pw g w) (hm : MR H m ks rd) (hwl : w.length ≤ 10)
    {s : Int} (hs1 : -100 ≤ s) (hs2 : s < 8) {a c ah : Nat} (hac : a ≤ c) (hc : c ≤ w.length) (hah : ah ≤ 1000000) :
    Gives Try.prog 73 [.pointer (some ⟨fo, 0, none⟩), .int .i64 s, .int .i64 (a : Nat), .int .i64 (c : Nat), .int .i64 (ah : Nat)] n H fun v n' H' => v = .bool (fit w rd ah s a c) ∧ n' = n ∧ H' = H := by
  refine Gives.of orders ok73 (Nat.le_of_ble_eq_true rfl) ?_
  have hfo := hf.f
  repeat (first | refine qqn rfl ?_ | ((first | (refine WK.rgn ?_ ?_; kernel_rfl) | refine AtCall.now ?_); simp (config := {maxSteps:=999999}) only [SS, qx23, forall_const, vun, simprocAttr, ff_73]) | refine qqj rfl ?_ | refine qqk rfl ?_)
  refine AtCall.by (isVar_gives _ _ _) ?_
  rintro v n' H' _ ⟨rfl, rfl, rfl⟩
  by_cases hs : 0 ≤ s
  · simp (config := {maxSteps:=999999}) only [SS, qx23, forall_const, vun, simprocAttr, hs, decide_true, ff_73]
    have hx : smN (s, a, c) := by unfold smN; simp only; omega
    have hl := hm.look hx
    have e : ndV (s, a, c) = .agg #[.int .i64 s, .int .i64 (a : Nat), .int .i64 (c : Nat)] := rfl
    rw [e] at hl
    by_cases h1 : 0 < rd (s, a, c)
    · have h1' : ((0 : Int) < ((rd (s, a, c) : Nat) : Int)) = True := by simp only [eq_iff_iff, iff_true]; omega
      by_cases h2 : ah = 0
      · have h2' : ((ah : Int) = 0) = True := by simp only [eq_iff_iff, iff_true]; omega
        repeat (first | refine qqn rfl ?_ | ((first | (refine WK.rgn ?_ ?_; kernel_rfl) | refine AtCall.now ?_); simp (config := {maxSteps:=999999}) only [SS, qx23, forall_const, vun, simprocAttr, hfo, fo_4, aop_nc, tnc, aop_look, hl, h1', h2', ff_73]) | refine qqj rfl ?_ | refine qqk rfl ?_)
        (first | refine WK.retNil ⟨Or.inr rfl, _, rfl, ?_, ?_⟩ | refine WK.skipNil ⟨Or.inl rfl, _, rfl, ?_, ?_⟩)
        · exact fun _ _ => rfl
        · simp only [packed, fset_apply, Nat.reduceEqDiff, ↓reduceIte, List.getD_cons_zero, List.getD_cons_succ, fit, hs, h1, h2, ff_73]
          simp
      · have h2' : ((ah : Int) = 0) = False := by simp only [eq_iff_iff, iff_false]; omega
        by_cases h3 : rd (s, a, c) < ah
        · have h3' : (((rd (s, a, c) : Nat) : Int) < (ah : Int)) = True := by simp only [eq_iff_iff, iff_true]; omega
          repeat (first | refine qqn rfl ?_ | ((first | (refine WK.rgn ?_ ?_; kernel_rfl) | refine AtCall.now ?_); simp (config := {maxSteps:=999999}) only [SS, qx23, forall_const, vun, simprocAttr, hfo, fo_4, aop_nc, tnc, aop_look, hl, h1', h2', h3', ff_73]) | refine qqj rfl ?_ | refine qqk rfl ?_)
          (first | refine WK.retNil ⟨Or.inr rfl, _, rfl, ?_, ?_⟩ | refine WK.skipNil ⟨Or.inl rfl, _, rfl, ?_, ?_⟩)
          · exact fun _ _ => rfl
          · simp only [packed, fset_apply, Nat.reduceEqDiff, ↓reduceIte, List.getD_cons_zero, List.getD_cons_succ, fit, hs, h1, h2, h3, ff_73]
            simp
        · have h3' : (((rd (s, a, c) : Nat) : Int) < (ah : Int)) = False := by simp only [eq_iff_iff, iff_false]; omega
          repeat (first | refine qqn rfl ?_ | ((first | (refine WK.rgn ?_ ?_; kernel_rfl) | refine AtCall.now ?_); simp (config := {maxSteps:=999999}) only [SS, qx23, forall_const, vun, simprocAttr, hfo, fo_4, aop_nc, tnc, aop_look, hl, h1', h2', h3', ff_73]) | refine qqj rfl ?_ | refine qqk rfl ?_)
          (first | refine WK.retNil ⟨Or.inr rfl, _, rfl, ?_, ?_⟩ | refine WK.skipNil ⟨Or.inl rfl, _, rfl, ?_, ?_⟩)
          · exact fun _ _ => rfl
          · simp only [packed, fset_apply, Nat.reduceEqDiff, ↓reduceIte, List.getD_cons_zero, List.getD_cons_succ, fit, hs, h1, h2, h3, ff_73]
            simp
    · have h1' : ((0 : Int) < ((rd (s, a, c) : Nat) : Int)) = False := by simp only [eq_iff_iff, iff_false]; omega
      repeat (first | refine qqn rfl ?_ | ((first | (refine WK.rgn ?_ ?_; kernel_rfl) | refine AtCall.now ?_); simp (config := {maxSteps:=999999}) only [SS, qx23, forall_const, vun, simprocAttr, hfo, fo_4, aop_nc, tnc, aop_look, hl, h1', ff_73]) | refine qqj rfl ?_ | refine qqk rfl ?_)
      (first | refine WK.retNil ⟨Or.inr rfl, _, rfl, ?_, ?_⟩ | refine WK.skipNil ⟨Or.inl rfl, _, rfl, ?_, ?_⟩)
      · exact fun _ _ => rfl
      · simp only [packed, fset_apply, Nat.reduceEqDiff, ↓reduceIte, List.getD_cons_zero, List.getD_cons_succ, fit, hs, h1, ff_73]
        simp
  · simp (config := {maxSteps:=999999}) only [SS, qx23, forall_const, vun, simprocAttr, hs, decide_false, ff_73]
    have hw1 : IntKind.i64.wrap ((a : Int) + 1) = ((a + 1 : Nat) : Int) := by rw [wrap_in (by omega) (by omega)]; rfl
    by_cases h1 : c = a + 1
    · subst h1
      have hlt : a < w.length := by omega
      obtain ⟨x, k, cs, ty, own, rfl, hx, e⟩ := hf.w.at hlt
      have hlt' : ((a : Int) < (w.length : Int)) = True := by simp only [eq_iff_iff, iff_true]; omega
      have h0 : (0 : Int) ≤ (a : Int) := Int.natCast_nonneg a
      have hb := bnot_i64 (n := s) (by omega) (by omega)
      have hg : w.getD a 0 = w[a] := by simp [List.getD, List.getElem?_eq_getElem hlt]
      repeat (first | refine qqn rfl ?_ | ((first | (refine WK.rgn ?_ ?_; kernel_rfl) | refine AtCall.now ?_); simp (config := {maxSteps:=999999}) only [SS, qx23, forall_const, vun, simprocAttr, hfo, fo_3, aop_nc, tnc, hw1, hx, e, hlt, hlt', h0, hb, Int.toNat_natCast, ff_73]) | refine qqj rfl ?_ | refine qqk rfl ?_)
      (first | refine WK.retNil ⟨Or.inr rfl, _, rfl, ?_, ?_⟩ | refine WK.skipNil ⟨Or.inl rfl, _, rfl, ?_, ?_⟩)
      · exact fun _ _ => rfl
      · simp only [packed, fset_apply, Nat.reduceEqDiff, ↓reduceIte, List.getD_cons_zero, List.getD_cons_succ, fit, hs, hg, ff_73]
        simp
    · have h1' : ((c : Int) = ((a + 1 : Nat) : Int)) = False := by simp only [eq_iff_iff, iff_false]; omega
      repeat (first | refine qqn rfl ?_ | ((first | (refine WK.rgn ?_ ?_; kernel_rfl) | refine AtCall.now ?_); simp (config := {maxSteps:=999999}) only [SS, qx23, forall_const, vun, simprocAttr, hfo, fo_3, aop_nc, tnc, hw1, h1', ff_73]) | refine qqj rfl ?_ | refine qqk rfl ?_)
      (first | refine WK.retNil ⟨Or.inr rfl, _, rfl, ?_, ?_⟩ | refine WK.skipNil ⟨Or.inl rfl, _, rfl, ?_, ?_⟩)
      · exact fun _ _ => rfl
      · simp only [packed, fset_apply, Nat.reduceEqDiff, ↓reduceIte, List.getD_cons_zero, List.getD_cons_succ, fit, hs, h1, ff_73]
        simp
end Go.Proofs.Ytemkglelfeidhaa
