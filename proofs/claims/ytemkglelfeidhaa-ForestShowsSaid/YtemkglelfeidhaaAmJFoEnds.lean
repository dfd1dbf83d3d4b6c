/- A part of a proof. Its conditions: none. -/
import Derived.Test.YtemkglelfeidhaaAmJFacts
import Derived.Test.YtemkglelfeidhaaAmC
import Derived.Test.YtemkglelfeidhaaAmD
set_option linter.all false
namespace Go.Proofs.Ytemkglelfeidhaa
open Go.AM
set_option maxRecDepth 100000
theorem isVar_gives (x : Int) (n : Nat) (H : Heap) : Gives Try.prog 54 [.int .i64 x] n H fun v n' H' => v = .bool (decide (0 ≤ x)) ∧ n' = n ∧ H' = H := by
 refine Gives.of orders ok54 (Nat.le_of_ble_eq_true rfl) ?_
 repeat (first | refine qqm rfl ?_ | ((first | refine qqr ?_ | refine qqt ?_); simp only [SS, qx21, simprocAttr]))
 (first | refine WK.retNil ⟨Or.inr rfl, _, rfl, ?_, ?_⟩ | refine WK.skipNil ⟨Or.inl rfl, _, rfl, ?_, ?_⟩)
 ·exact fun _ _ => rfl
 ·simp only [packed, fset_apply, Nat.reduceEqDiff, ↓reduceIte, List.getD_cons_zero, List.getD_cons_succ]
  simp
def countR (l : List GRule) (x : Int) : Nat := (l.filter fun r => decide (r.left = x)).length
theorem count_gives {v : Value} {g : Gram} {x : Int} {n : Nat} {H : Heap} (hw : WF n H) (hg : RG H v g) (wg : WG g) :
  Gives Try.prog 24 [v, .int .i64 x] n H fun v _ _ => v = .int .i64 (countR g.rules x) := by
 obtain ⟨pt, pv, pr, rfl, ht, hv, hr⟩ := hg
 refine Gives.of orders ok24 (Nat.le_of_ble_eq_true rfl) ?_
 have hk := Kp.new n H (.cells (gcells pt pv pr g) 25 true)
 replace hr := hr.mono hw hk
 have hb := hset_at H n (.cells (gcells pt pv pr g) 25 true)
 repeat refine qqn rfl ?_
 (refine qqr ?_; simp only [SS, qx7, simprocAttr, box_cells, box_one, ff_24])
 repeat refine qqn rfl ?_
 generalize hset H n (.cells (gcells pt pv pr g) 25 true) = H1 at *
 repeat (first | refine qqm rfl ?_ | ((first | refine qqr ?_ | refine qqt ?_); simp only [SS, qx7, simprocAttr, ff_24]))
 have hl := wg.rules
 unfold maxL at hl
 refine WK.loop (fun k s => ∃ i c, s.n = n + 1 ∧ s.H = H1 ∧ s.f 1 = .int .i64 x ∧ s.f 2 = .pointer (some ⟨n, 0, none⟩) ∧ s.f 5 = .int .i64 (c : Nat) ∧ s.f 6 = .int .i64 (i : Nat) ∧ i ≤ g.rules.length ∧ c ≤ i ∧ k = g.rules.length - i ∧ c = countR (g.rules.take i) x) g.rules.length ?_ ?_
 ·exact ⟨0, 0, rfl, rfl, rfl, rfl, rfl, rfl, Nat.zero_le _, Nat.zero_le _, rfl, rfl⟩
 rintro k ⟨f, n', H'⟩ ⟨i, c, rfl, rfl, f1, f2, f5, f6, hi, hci, rfl, hc⟩ ih
 simp only at f1 f2 f5 f6 ih hr hb
 by_cases hir : i < g.rules.length
 ·obtain ⟨y, k, cs, ty, own, p, rfl, hx, c0, c1, c2, hp⟩ := hr.at hir
  have ht : g.rules.take (i + 1) = g.rules.take i ++ [g.rules[i]] := List.take_succ_eq_append_getElem hir
  by_cases he : g.rules[i].left = x
  ·repeat (first | refine qqm rfl ?_ | ((first | refine qqr ?_ | refine qqt ?_); simp only [SS, qx7, simprocAttr, f1, f2, f5, f6, hb, gc_2, hir, hx, c0, he, ff_24]))
   refine ih (g.rules.length - (i + 1)) (by omega) _ ⟨i + 1, c + 1, rfl, rfl, f1, f2, ?_, ?_, hir, by omega, rfl, ?_⟩
   ·simp only [packed, fset_apply, Nat.reduceEqDiff, ↓reduceIte, List.getD_cons_zero, List.getD_cons_succ, ff_24]
    rw [wrap_in (by omega) (by omega)]; rfl
   ·simp only [packed, fset_apply, Nat.reduceEqDiff, ↓reduceIte, List.getD_cons_zero, List.getD_cons_succ, f6, ff_24]
    rw [wrap_in (by omega) (by omega)]; rfl
   ·rw [ht, hc]; unfold countR; rw [List.filter_append, List.length_append]; simp [he]
  ·repeat (first | refine qqm rfl ?_ | ((first | refine qqr ?_ | refine qqt ?_); simp only [SS, qx7, simprocAttr, f1, f2, f5, f6, hb, gc_2, hir, hx, c0, he, ff_24]))
   refine ih (g.rules.length - (i + 1)) (by omega) _ ⟨i + 1, c, rfl, rfl, f1, f2, f5, ?_, hir, by omega, rfl, ?_⟩
   ·simp only [packed, fset_apply, Nat.reduceEqDiff, ↓reduceIte, List.getD_cons_zero, List.getD_cons_succ, ff_24]
    rw [wrap_in (by omega) (by omega)]; rfl
   ·rw [ht, hc]; unfold countR; rw [List.filter_append, List.length_append]; simp [he]
 ·repeat (first | refine qqm rfl ?_ | ((first | refine qqr ?_ | refine qqt ?_); simp only [SS, qx7, simprocAttr, f1, f2, f5, f6, hb, gc_2, hir, ff_24]))
  (first | refine WK.retNil ⟨Or.inr rfl, _, rfl, ?_, ?_⟩ | refine WK.skipNil ⟨Or.inl rfl, _, rfl, ?_, ?_⟩)
  ·exact hk.keep
  ·simp only [packed, fset_apply, Nat.reduceEqDiff, ↓reduceIte, List.getD_cons_zero, List.getD_cons_succ, f5, ff_24]
   rw [List.take_of_length_le (by omega)] at hc
   rw [hc]
def usesR (l : List GRule) (x : Int) : Bool := l.any fun r => r.right.any fun s => decide (s = x)
theorem uses_gives {v : Value} {g : Gram} {x : Int} {n : Nat} {H : Heap} (hw : WF n H) (hg : RG H v g) (wg : WG g) :
  Gives Try.prog 25 [v, .int .i64 x] n H fun v _ _ => v = .bool (usesR g.rules x) := by
 obtain ⟨pt, pv, pr, rfl, ht, hv, hr⟩ := hg
 refine Gives.of orders ok25 (Nat.le_of_ble_eq_true rfl) ?_
 have hk := Kp.new n H (.cells (gcells pt pv pr g) 25 true)
 replace hr := hr.mono hw hk
 have hb := hset_at H n (.cells (gcells pt pv pr g) 25 true)
 repeat refine qqn rfl ?_
 (refine qqr ?_; simp only [SS, qx7, simprocAttr, box_cells, box_one, ff_25])
 repeat refine qqn rfl ?_
 generalize hset H n (.cells (gcells pt pv pr g) 25 true) = H1 at *
 repeat (first | refine qqm rfl ?_ | ((first | refine qqr ?_ | refine qqt ?_); simp only [SS, qx7, simprocAttr, ff_25]))
 have hl := wg.rules
 unfold maxL at hl
 refine WK.loop (fun k s => ∃ i, s.n = n + 1 ∧ s.H = H1 ∧ s.f 1 = .int .i64 x ∧ s.f 2 = .pointer (some ⟨n, 0, none⟩) ∧ s.f 5 = .int .i64 (i : Nat) ∧ i ≤ g.rules.length ∧ k = g.rules.length - i ∧ usesR (g.rules.take i) x = false) g.rules.length ?_ ?_
 ·exact ⟨0, rfl, rfl, rfl, rfl, rfl, Nat.zero_le _, rfl, rfl⟩
 rintro k ⟨f, n', H'⟩ ⟨i, rfl, rfl, f1, f2, f5, hi, rfl, hc⟩ ih
 simp only at f1 f2 f5 ih hr hb
 by_cases hir : i < g.rules.length
 ·obtain ⟨y, k, cs, ty, own, p, rfl, hx, c0, c1, c2, hp⟩ := hr.at hir
  have ht : g.rules.take (i + 1) = g.rules.take i ++ [g.rules[i]] := List.take_succ_eq_append_getElem hir
  obtain ⟨hrl, _⟩ := wg.right _ (List.getElem_mem hir)
  unfold maxL at hrl
  repeat (first | refine qqm rfl ?_ | ((first | refine qqr ?_ | refine qqt ?_); simp only [SS, qx7, simprocAttr, f1, f2, f5, hb, gc_2, hir, ff_25]))
  refine WK.loop (fun k s => ∃ j, s.n = n + 1 ∧ s.H = H' ∧ s.f 1 = .int .i64 x ∧ s.f 2 = .pointer (some ⟨n, 0, none⟩) ∧ s.f 5 = .int .i64 (i : Nat) ∧ s.f 6 = .int .i64 (j : Nat) ∧ j ≤ g.rules[i].right.length ∧ k = g.rules[i].right.length - j ∧ (g.rules[i].right.take j).any (fun s => decide (s = x)) = false) g.rules[i].right.length ?_ ?_
  ·exact ⟨0, rfl, rfl, f1, f2, f5, rfl, Nat.zero_le _, rfl, rfl⟩
  rintro k' ⟨f', n', H'⟩ ⟨j, rfl, rfl, f1, f2, f5, f6, hj, rfl, hcj⟩ ih2
  simp only at f1 f2 f5 f6 ih2 ih hr hb hx hp
  by_cases hjr : j < g.rules[i].right.length
  ·obtain ⟨z, kz, ds, tz, oz, rfl, hz, e⟩ := hp.at hjr
   have htj : g.rules[i].right.take (j + 1) = g.rules[i].right.take j ++ [g.rules[i].right[j]] := List.take_succ_eq_append_getElem hjr
   by_cases he : g.rules[i].right[j] = x
   ·repeat (first | refine qqm rfl ?_ | ((first | refine qqr ?_ | refine qqt ?_); simp only [SS, qx7, simprocAttr, f1, f2, f5, f6, hb, gc_2, hir, hx, c1, hjr, hz, e, he, ff_25]))
    (first | refine WK.retNil ⟨Or.inr rfl, _, rfl, ?_, ?_⟩ | refine WK.skipNil ⟨Or.inl rfl, _, rfl, ?_, ?_⟩)
    ·exact hk.keep
    ·simp only [packed, fset_apply, Nat.reduceEqDiff, ↓reduceIte, List.getD_cons_zero, List.getD_cons_succ, ff_25]
     have : usesR g.rules x = true := by
      simp only [usesR, List.any_eq_true]
      exact ⟨_, List.getElem_mem hir, _, List.getElem_mem hjr, by simpa using he⟩
     rw [this]
   ·repeat (first | refine qqm rfl ?_ | ((first | refine qqr ?_ | refine qqt ?_); simp only [SS, qx7, simprocAttr, f1, f2, f5, f6, hb, gc_2, hir, hx, c1, hjr, hz, e, he, ff_25]))
    refine ih2 (g.rules[i].right.length - (j + 1)) (by omega) _ ⟨j + 1, rfl, rfl, f1, f2, f5, ?_, hjr, rfl, ?_⟩
    ·simp only [packed, fset_apply, Nat.reduceEqDiff, ↓reduceIte, List.getD_cons_zero, List.getD_cons_succ, ff_25]
     rw [wrap_in (by omega) (by omega)]; rfl
    ·rw [htj, List.any_append, hcj]; simp [he]
  ·repeat (first | refine qqm rfl ?_ | ((first | refine qqr ?_ | refine qqt ?_); simp only [SS, qx7, simprocAttr, f1, f2, f5, f6, hb, gc_2, hir, hx, c1, hjr, ff_25]))
   refine ih (g.rules.length - (i + 1)) (by omega) _ ⟨i + 1, rfl, rfl, f1, f2, ?_, hir, rfl, ?_⟩
   ·simp only [packed, fset_apply, Nat.reduceEqDiff, ↓reduceIte, List.getD_cons_zero, List.getD_cons_succ, ff_25]
    rw [wrap_in (by omega) (by omega)]; rfl
   ·rw [List.take_of_length_le (by omega)] at hcj
    rw [ht]; simp only [usesR, List.any_append, List.any_cons, List.any_nil, hcj] at hc ⊢
    simpa using hc
 ·repeat (first | refine qqm rfl ?_ | ((first | refine qqr ?_ | refine qqt ?_); simp only [SS, qx7, simprocAttr, f1, f2, f5, hb, gc_2, hir, ff_25]))
  (first | refine WK.retNil ⟨Or.inr rfl, _, rfl, ?_, ?_⟩ | refine WK.skipNil ⟨Or.inl rfl, _, rfl, ?_, ?_⟩)
  ·exact hk.keep
  ·simp only [packed, fset_apply, Nat.reduceEqDiff, ↓reduceIte, List.getD_cons_zero, List.getD_cons_succ, ff_25]
   rw [List.take_of_length_le (by omega)] at hc
   rw [hc]
end Go.Proofs.Ytemkglelfeidhaa

namespace Go.Proofs.Ytemkglelfeidhaa
open Go.AM Go.AM.Fo Go.RowKit
set_option maxRecDepth 100000
theorem wrap_up {i m : Nat} (h : i < m) (hm : m ≤ maxL) : IntKind.i64.wrap ((i : Int) + 1) = ((i + 1 : Nat) : Int) := by
 unfold maxL at hm
 rw [wrap_in (by omega) (by omega)]; rfl
def ndC (x : Nd) : List Value := [.int .i64 x.1, .int .i64 (x.2.1 : Nat), .int .i64 (x.2.2 : Nat)]
def ndV (x : Nd) : Value := .agg (ndC x).toArray
theorem tk3 (x y z : Value) : List.take 3 (List.drop 0 [x, y, z]) = [x, y, z] := rfl
theorem tk4 (x y z : Value) : List.take 3 [x, y, z] = [x, y, z] := rfl
theorem sp3 (x : Nd) : AM.splice [Value.int .i64 (Int.ofNat 0), .int .i64 (Int.ofNat 0), .int .i64 (Int.ofNat 0)] 0 (ndC x) = ndC x := rfl
def smN (x : Nd) : Prop := -1000000 ≤ x.1 ∧ x.1 ≤ 1000000 ∧ x.2.1 ≤ 1000000 ∧ x.2.2 ≤ 1000000
theorem ndC_len (x : Nd) : (ndC x).length = 3 := rfl
theorem ndC_all (x : Nd) : ((ndC x).drop 0).take 3 = ndC x := rfl
theorem ndC_one (x : Nd) : (ndC x).all one = true := rfl
theorem ndC_cells (x : Nd) : vcells (.agg (ndC x).toArray) = ndC x := rfl
theorem ndC_0 (x : Nd) : (ndC x)[0]? = some (.int .i64 x.1) := rfl
theorem ndC_1 (x : Nd) : (ndC x)[1]? = some (.int .i64 (x.2.1 : Nat)) := rfl
theorem ndC_2 (x : Nd) : (ndC x)[2]? = some (.int .i64 (x.2.2 : Nat)) := rfl
noncomputable def fsN : Array Field := match Try.prog.underlying 67 with
 | some (.struct fs) => fs
 | _ => #[]
theorem wf_small {n : Int} (h1 : -1000000 ≤ n) (h2 : n ≤ 1000000) : (Lit.int .i64 n).wf = true := by
 have h3 : IntKind.min .i64 = -9223372036854775808 := rfl
 have h4 : IntKind.max .i64 = 9223372036854775807 := rfl
 unfold Lit.wf
 simp only [h3, h4, Bool.and_eq_true, decide_eq_true_eq]
 omega
theorem gkN : GK Try.prog 67 ndV smN where
 wide := by kernel_rfl
 ok := fun x h => ⟨rfl, keyOf_3 (fs := fsN) (ti := 3) (by kernel_rfl) (by kernel_rfl) (by kernel_rfl) (Nat.lt_of_lt_of_le Nat.zero_lt_one (Nat.le_of_ble_eq_true (by kernel_rfl))) (by kernel_rfl) (by kernel_rfl) (by kernel_rfl) (by kernel_rfl)
  (wf_small h.1 h.2.1) (wf_small (by omega) (by have := h.2.2.1; omega)) (wf_small (by omega) (by have := h.2.2.2; omega))⟩
 inj := fun a b _ _ e => by
  unfold ndV ndC at e
  simp at e
  exact Prod.ext e.1 (Prod.ext (by omega) (by omega))
theorem und_mn : Try.prog.underlying 62 = some (.map 67 3) := by kernel_rfl
theorem zero_int : (Try.prog.info? 3).bind (·.zero) = some (.int .i64 0) := by kernel_rfl
def foC (pt pv pr : Option Addr) (g : Gram) (pw : Option Addr) (w : List Int) (m : Nat) : List Value := gcells pt pv pr g ++ [.slice pw w.length w.length, .map (some m)]
section
variable (pt pv pr : Option Addr) (g : Gram) (pw : Option Addr) (w : List Int) (m : Nat)
theorem fo_2 : (foC pt pv pr g pw w m)[2]? = some (.slice pr g.rules.length g.rules.length) := rfl
theorem fo_3 : (foC pt pv pr g pw w m)[3]? = some (.slice pw w.length w.length) := rfl
theorem fo_4 : (foC pt pv pr g pw w m)[4]? = some (.map (some m)) := rfl
theorem fo_len : (foC pt pv pr g pw w m).length = 5 := rfl
theorem fo_g : ((foC pt pv pr g pw w m).drop 0).take 3 = gcells pt pv pr g := rfl
end
def valN (rd : Nd → Nat) (x : Nd) : Value := .int .i64 (rd x : Nat)
structure MR (H : Heap) (m : Nat) (ks : List Nd) (rd : Nd → Nat) : Prop where
 m : H m = .map (vE ndV (valN rd) ks 0) ks.length 67
 nd : ks.Nodup
 mem : ∀ x, x ∈ ks ↔ rd x ≠ 0
 sm : ∀ x, x ∈ ks → smN x
structure FO (H : Heap) (fo m : Nat) (pt pv pr pw : Option Addr) (g : Gram) (w : List Int) : Prop where
 f : H fo = .cells (foC pt pv pr g pw w m) 64 true
 r : RR H pr g.rules
 w : RA (Value.int .i64) H pw w
theorem FO.mono {n n' : Nat} {H H' : Heap} {fo m : Nat} {pt pv pr pw : Option Addr} {g : Gram} {w : List Int} (h : FO H fo m pt pv pr pw g w) (hw : WF n H) (hk : Kp n H n' H') : FO H' fo m pt pv pr pw g w :=
 ⟨by rw [hk.keep _ (live_lt hw (by rw [h.f]; intro e; cases e))]; exact h.f, h.r.mono hw hk, h.w.mono hw hk⟩
theorem MR.mono {n n' : Nat} {H H' : Heap} {m : Nat} {ks : List Nd} {rd : Nd → Nat} (h : MR H m ks rd) (hw : WF n H) (hk : Kp n H n' H') : MR H' m ks rd :=
 ⟨by rw [hk.keep _ (live_lt hw (by rw [h.m]; intro e; cases e))]; exact h.m, h.nd, h.mem, h.sm⟩
theorem MR.look {H : Heap} {m : Nat} {ks : List Nd} {rd : Nd → Nat} (h : MR H m ks rd) {x : Nd} (hx : smN x) : alookup Try.prog 62 H (.map (some m)) (ndV x) false = some { v := .int .i64 (rd x : Nat), rd := [m] } := by
 by_cases hm : x ∈ ks
 ·exact gkN.vyes hx h.sm hm und_mn h.m false
 ·have h0 : rd x = 0 := Classical.byContradiction fun hn => hm ((h.mem x).2 hn)
  rw [h0]
  exact gkN.vno hx h.sm hm und_mn zero_int rfl h.m false
structure Sgm (g : Gram) : Prop where
 ing : InG g
 rules : g.rules.length ≤ 24
 vars : g.vars.length ≤ 8
 r8 : ∀ r ∈ g.rules, r.right.length ≤ 8
 t6 : g.terms.length ≤ 6
 up : ∀ i j (hi : i < g.rules.length) (hj : j < g.rules.length), i ≤ j → g.rules[i].left ≤ g.rules[j].left
theorem Sgm.sym {g : Gram} (h : Sgm g) {r : GRule} (hr : r ∈ g.rules) {s : Int} (hs : s ∈ r.right) : -100 ≤ s ∧ s < 8 := by
 have h1 := h.ing.right r hr s hs
 have h2 := h.ing.rightT r hr s hs
 have h3 := h.vars
 have h4 := h.t6
 omega
theorem Sgm.lft {g : Gram} (h : Sgm g) {r : GRule} (hr : r ∈ g.rules) : 0 ≤ r.left ∧ r.left < 8 := by
 have h1 := h.ing.left0 r hr
 have h2 := h.ing.left1 r hr
 have h3 := h.vars
 omega
theorem Sgm.sml {g : Gram} (h : Sgm g) {w : List Int} (hw : w.length ≤ 10) : Sml g w := ⟨h.vars, fun r => by
 unfold rgt
 cases hr : g.rules[r]? with
 | none => simp
 | some x => simpa using h.r8 x (List.mem_of_getElem? hr), hw⟩
set_option maxHeartbeats 4000000 in
theorem fits_gives {fo m : Nat} {pt pv pr pw : Option Addr} {g : Gram} {w : List Int} {ks : List Nd} {rd : Nd → Nat} {n : Nat} {H : Heap} (hf : FO H fo m pt pv pr pw g w) (hm : MR H m ks rd) (hwl : w.length ≤ 10)
  {s : Int} (hs1 : -100 ≤ s) (hs2 : s < 8) {a c ah : Nat} (hac : a ≤ c) (hc : c ≤ w.length) (hah : ah ≤ 1000000) :
  Gives Try.prog 73 [.pointer (some ⟨fo, 0, none⟩), .int .i64 s, .int .i64 (a : Nat), .int .i64 (c : Nat), .int .i64 (ah : Nat)] n H fun v n' H' => v = .bool (fit w rd ah s a c) ∧ n' = n ∧ H' = H := by
 refine Gives.of orders ok73 (Nat.le_of_ble_eq_true rfl) ?_
 have hfo := hf.f
 repeat (first | refine qqm rfl ?_ | ((first | refine qqr ?_ | refine qqt ?_); simp only [SS, qx31, vun, simprocAttr, ff_73]))
 refine AtCall.by (isVar_gives _ _ _) ?_
 rintro v n' H' _ ⟨rfl, rfl, rfl⟩
 by_cases hs : 0 ≤ s
 ·simp only [SS, qx31, vun, simprocAttr, hs, decide_true, ff_73]
  have hx : smN (s, a, c) := by unfold smN; simp only; omega
  have hl := hm.look hx
  have e : ndV (s, a, c) = .agg #[.int .i64 s, .int .i64 (a : Nat), .int .i64 (c : Nat)] := rfl
  rw [e] at hl
  by_cases h1 : 0 < rd (s, a, c)
  ·have h1' : ((0 : Int) < ((rd (s, a, c) : Nat) : Int)) = True := by simp only [eq_iff_iff, iff_true]; omega
   by_cases h2 : ah = 0
   ·have h2' : ((ah : Int) = 0) = True := by simp only [eq_iff_iff, iff_true]; omega
    repeat (first | refine qqm rfl ?_ | ((first | refine qqr ?_ | refine qqt ?_); simp only [SS, qx31, vun, simprocAttr, hfo, fo_4, aop_nc, tnc, aop_look, hl, h1', h2', ff_73]))
    (first | refine WK.retNil ⟨Or.inr rfl, _, rfl, ?_, ?_⟩ | refine WK.skipNil ⟨Or.inl rfl, _, rfl, ?_, ?_⟩)
    ·exact fun _ _ => rfl
    ·simp only [packed, fset_apply, Nat.reduceEqDiff, ↓reduceIte, List.getD_cons_zero, List.getD_cons_succ, fit, hs, h1, h2, ff_73]
     simp
   ·have h2' : ((ah : Int) = 0) = False := by simp only [eq_iff_iff, iff_false]; omega
    by_cases h3 : rd (s, a, c) < ah
    ·have h3' : (((rd (s, a, c) : Nat) : Int) < (ah : Int)) = True := by simp only [eq_iff_iff, iff_true]; omega
     repeat (first | refine qqm rfl ?_ | ((first | refine qqr ?_ | refine qqt ?_); simp only [SS, qx31, vun, simprocAttr, hfo, fo_4, aop_nc, tnc, aop_look, hl, h1', h2', h3', ff_73]))
     (first | refine WK.retNil ⟨Or.inr rfl, _, rfl, ?_, ?_⟩ | refine WK.skipNil ⟨Or.inl rfl, _, rfl, ?_, ?_⟩)
     ·exact fun _ _ => rfl
     ·simp only [packed, fset_apply, Nat.reduceEqDiff, ↓reduceIte, List.getD_cons_zero, List.getD_cons_succ, fit, hs, h1, h2, h3, ff_73]
      simp
    ·have h3' : (((rd (s, a, c) : Nat) : Int) < (ah : Int)) = False := by simp only [eq_iff_iff, iff_false]; omega
     repeat (first | refine qqm rfl ?_ | ((first | refine qqr ?_ | refine qqt ?_); simp only [SS, qx31, vun, simprocAttr, hfo, fo_4, aop_nc, tnc, aop_look, hl, h1', h2', h3', ff_73]))
     (first | refine WK.retNil ⟨Or.inr rfl, _, rfl, ?_, ?_⟩ | refine WK.skipNil ⟨Or.inl rfl, _, rfl, ?_, ?_⟩)
     ·exact fun _ _ => rfl
     ·simp only [packed, fset_apply, Nat.reduceEqDiff, ↓reduceIte, List.getD_cons_zero, List.getD_cons_succ, fit, hs, h1, h2, h3, ff_73]
      simp
  ·have h1' : ((0 : Int) < ((rd (s, a, c) : Nat) : Int)) = False := by simp only [eq_iff_iff, iff_false]; omega
   repeat (first | refine qqm rfl ?_ | ((first | refine qqr ?_ | refine qqt ?_); simp only [SS, qx31, vun, simprocAttr, hfo, fo_4, aop_nc, tnc, aop_look, hl, h1', ff_73]))
   (first | refine WK.retNil ⟨Or.inr rfl, _, rfl, ?_, ?_⟩ | refine WK.skipNil ⟨Or.inl rfl, _, rfl, ?_, ?_⟩)
   ·exact fun _ _ => rfl
   ·simp only [packed, fset_apply, Nat.reduceEqDiff, ↓reduceIte, List.getD_cons_zero, List.getD_cons_succ, fit, hs, h1, ff_73]
    simp
 ·simp only [SS, qx31, vun, simprocAttr, hs, decide_false, ff_73]
  have hw1 : IntKind.i64.wrap ((a : Int) + 1) = ((a + 1 : Nat) : Int) := by rw [wrap_in (by omega) (by omega)]; rfl
  by_cases h1 : c = a + 1
  ·subst h1
   have hlt : a < w.length := by omega
   obtain ⟨x, k, cs, ty, own, rfl, hx, e⟩ := hf.w.at hlt
   have hlt' : ((a : Int) < (w.length : Int)) = True := by simp only [eq_iff_iff, iff_true]; omega
   have h0 : (0 : Int) ≤ (a : Int) := Int.natCast_nonneg a
   have hb := bnot_i64 (n := s) (by omega) (by omega)
   have hg : w.getD a 0 = w[a] := by simp [List.getD, List.getElem?_eq_getElem hlt]
   repeat (first | refine qqm rfl ?_ | ((first | refine qqr ?_ | refine qqt ?_); simp only [SS, qx31, vun, simprocAttr, hfo, fo_3, aop_nc, tnc, hw1, hx, e, hlt, hlt', h0, hb, Int.toNat_natCast, ff_73]))
   (first | refine WK.retNil ⟨Or.inr rfl, _, rfl, ?_, ?_⟩ | refine WK.skipNil ⟨Or.inl rfl, _, rfl, ?_, ?_⟩)
   ·exact fun _ _ => rfl
   ·simp only [packed, fset_apply, Nat.reduceEqDiff, ↓reduceIte, List.getD_cons_zero, List.getD_cons_succ, fit, hs, hg, ff_73]
    simp
  ·have h1' : ((c : Int) = ((a + 1 : Nat) : Int)) = False := by simp only [eq_iff_iff, iff_false]; omega
   repeat (first | refine qqm rfl ?_ | ((first | refine qqr ?_ | refine qqt ?_); simp only [SS, qx31, vun, simprocAttr, hfo, fo_3, aop_nc, tnc, hw1, h1', ff_73]))
   (first | refine WK.retNil ⟨Or.inr rfl, _, rfl, ?_, ?_⟩ | refine WK.skipNil ⟨Or.inl rfl, _, rfl, ?_, ?_⟩)
   ·exact fun _ _ => rfl
   ·simp only [packed, fset_apply, Nat.reduceEqDiff, ↓reduceIte, List.getD_cons_zero, List.getD_cons_succ, fit, hs, h1, ff_73]
    simp
end Go.Proofs.Ytemkglelfeidhaa

namespace Go.Proofs.Ytemkglelfeidhaa
open Go.AM Go.AM.Fo Go.RowKit
set_option maxRecDepth 100000
def natE (c : Nat) : Value := .int .i64 (c : Int)
theorem und_mb : Try.prog.underlying 93 = some (.map 3 4) := by kernel_rfl
theorem und_int0 : Try.prog.underlying 3 = some (.int .i64) := by kernel_rfl
theorem gkC : GK Try.prog 3 natE (fun c => c ≤ 1000000) where
 wide := (gkI und_int0).wide
 ok := fun c h => (gkI und_int0).ok (c : Int) (by unfold inI; omega)
 inj := fun a b _ _ e => by unfold natE at e; simp at e; omega
def tru (_ : Nat) : Value := .bool true
def ST (H : Heap) (y : Nat) (cs : List Nat) : Prop := H y = .map (vE natE tru cs 0) cs.length 3
def rlC (r : GRule) (p : Option Addr) : List Value := [.int .i64 r.left, .slice p r.right.length r.right.length, .float .f64 r.weight]
theorem rl_1 (r : GRule) (p : Option Addr) : (rlC r p)[1]? = some (.slice p r.right.length r.right.length) := rfl
theorem rl_0 (r : GRule) (p : Option Addr) : (rlC r p)[0]? = some (.int .i64 r.left) := rfl
theorem rl_cells (r : GRule) (p : Option Addr) : vcells (.agg (rlC r p).toArray) = rlC r p := rfl
theorem rl_one (r : GRule) (p : Option Addr) : (rlC r p).all one = true := rfl
theorem rl_len (r : GRule) (p : Option Addr) : (rlC r p).length = 3 := rfl
theorem rl_all (r : GRule) (p : Option Addr) : ((rlC r p).drop 0).take 3 = rlC r p := rfl
set_option maxHeartbeats 8000000 in
theorem ends_gives {fo m : Nat} {pt pv pr pw p : Option Addr} {g : Gram} {w : List Int} {ks : List Nd} {rd : Nd → Nat} {n0 : Nat} {H0 : Heap} (hw0 : WF n0 H0) (hf0 : FO H0 fo m pt pv pr pw g w) (hm0 : MR H0 m ks rd) (hwl : w.length ≤ 10)
  {r : GRule} (hr8 : r.right.length ≤ 8) (hrs : ∀ s ∈ r.right, -100 ≤ s ∧ s < 8) (hp0 : RA (Value.int .i64) H0 p r.right) {a : Nat} (ha : a ≤ w.length) :
  GivesD Try.prog 55 [.pointer (some ⟨fo, 0, none⟩), .agg (rlC r p).toArray, .int .i64 (a : Nat)] n0 H0 fun v n' H' => ∃ (y : Nat) (cs : List Nat), v = .map (some y) ∧ ST H' y cs ∧ cs.Nodup ∧ ∀ c, c ∈ cs ↔ c ≤ w.length ∧ Fo.Ends w rd r.right a c := by
 refine GivesD.of orders ok55 (Nat.le_of_ble_eq_true rfl) ?_
 repeat refine qdn rfl ?_
 (refine qdr ?_; simp only [SS, qx13, y3, simprocAttr, abox, rl_cells, rl_one, ff_55])
 have k1 := Kp.new n0 H0 (.cells (rlC r p) 49 true)
 have hb1 := hset_at H0 n0 (.cells (rlC r p) 49 true)
 generalize hset H0 n0 (.cells (rlC r p) 49 true) = H1 at *
 repeat refine qdn rfl ?_
 have hput : amapset Try.prog 93 (hset H1 (n0 + 1) (.map [] 0 3)) (.map (some (n0 + 1))) (.int .i64 (a : Nat)) (.bool true) = some { v := undef, wr := some (n0 + 1, .map (vE natE tru [a] 0) 1 3) } :=
  gkC.vput (val := tru) (val' := tru) (k := a) (ks := []) (by omega) (fun _ h => by cases h) (by simp) und_mb (hset_at _ _ _) (fun _ h => by cases h)
 have q1 : ∀ (H' : Heap) ob, hset H' (n0 + 1) ob n0 = H' n0 := fun H' ob => hset_ne _ _ _ (by omega)
 repeat (first | refine qdm rfl ?_ | ((first | refine qdr ?_ | refine qdt ?_); simp only [SS, qx13, y3, simprocAttr, aop_makemap, amake, und_mb, hput, aop_insert, q1, hb1, rl_1, ff_55]))
 have k2 := (Kp.new (n0 + 1) H1 (.map [] 0 3)).set (x := n0 + 1) (.map (vE natE tru [a] 0) 1 3) (Nat.le_refl _) (by omega)
 have hy2 : ST (hset (hset H1 (n0 + 1) (.map [] 0 3)) (n0 + 1) (.map (vE natE tru [a] 0) 1 3)) (n0 + 1) [a] := hset_at _ _ _
 rw [hset_hset] at k2 hy2
 have k12 := k1.trans k2
 have hb2 := (k2.keep n0 (by omega)).trans hb1
 generalize hset H1 (n0 + 1) (.map (vE natE tru [a] 0) 1 3) = H2 at *
 refine WKD.loop (fun kk s => ∃ (i y : Nat) (cs : List Nat), i ≤ r.right.length ∧ Kp n0 H0 s.n s.H ∧ n0 < y ∧ ST s.H y cs ∧ cs.Nodup ∧ (∀ c, c ∈ cs ↔ c ≤ w.length ∧ Fo.Ends w rd (r.right.take i) a c) ∧ s.H n0 = .cells (rlC r p) 49 true ∧
  s.f 0 = .pointer (some ⟨fo, 0, none⟩) ∧ s.f 7 = .map (some y) ∧ s.f 17 = .slice p r.right.length r.right.length ∧ s.f 18 = .int .i64 (r.right.length : Nat) ∧ s.f 19 = .int .i64 (i : Nat) ∧ kk = r.right.length - i) r.right.length ?_ ?_
 ·refine ⟨0, n0 + 1, [a], Nat.zero_le _, k12, by omega, hy2, by simp, fun c => ?_, hb2, rfl, rfl, rfl, rfl, rfl, rfl⟩
  rw [List.take_zero, ends_nil]
  simp only [List.mem_singleton]
  omega
 clear hy2 hb2 k12 k2 H2 hput hb1 k1 H1
 rintro kk ⟨f, n3, H3⟩ ⟨i, y, cs, hi, k3, hy, hst, hnd, hmem, hb3, f0, f7, f17, f18, f19, rfl⟩ ih
 simp only at k3 hst hb3 f0 f7 f17 f18 f19 ih
 have hw3 := k3.wf hw0
 have hle3 := k3.le
 by_cases hil : i < r.right.length
 case neg =>
  have hil' : ((i : Int) < (r.right.length : Int)) = False := by simp only [eq_iff_iff, iff_false]; omega
  repeat (first | refine qdm rfl ?_ | ((first | refine qdr ?_ | refine qdt ?_); simp only [SS, qx13, y3, simprocAttr, f7, f18, f19, hil', ff_55]))
  (first | refine WKD.retNil ⟨Or.inr rfl, _, rfl, ?_, ?_⟩ | refine WKD.skipNil ⟨Or.inl rfl, _, rfl, ?_, ?_⟩)
  ·exact k3.keep
  ·simp only [packed, fset_apply, Nat.reduceEqDiff, ↓reduceIte, List.getD_cons_zero, List.getD_cons_succ, f7, ff_55]
   refine ⟨y, cs, rfl, hst, hnd, fun c => ?_⟩
   rw [hmem c, List.take_of_length_le (by omega)]
 have hil' : ((i : Int) < (r.right.length : Int)) = True := by simp only [eq_iff_iff, iff_true]; omega
 have h0i : (0 : Int) ≤ (i : Int) := Int.natCast_nonneg i
 obtain ⟨x, k, xs, xty, xown, rfl, hx, ex⟩ := (hp0.mono hw0 k3).at hil
 obtain ⟨s, hs⟩ : ∃ s, r.right[i] = s := ⟨_, rfl⟩
 have hsm := hrs s (by rw [← hs]; exact List.getElem_mem hil)
 rw [hs] at ex
 have hcl : ∀ c, c ∈ cs → c ≤ w.length := fun c hc => ((hmem c).1 hc).1
 have hclen : cs.length ≤ 11 := by have := nodup_bnd hnd hcl; omega
 have hyn : y < n3 := live_lt hw3 (by rw [hst]; intro e; cases e)
 have hle3' : n0 < n3 := by omega
 repeat (first | refine qdm rfl ?_ | ((first | refine qdr ?_ | refine qdt ?_); simp only [SS, qx13, y3, simprocAttr, f7, f17, f18, f19, hil', hil, h0i, hx, ex, aop_makemap, amake, und_mb, Int.toNat_natCast, ff_55]))
 have hst4 : hset H3 n3 (.map [] 0 3) y = .map (vE natE tru cs 0) cs.length 3 := (hset_ne _ _ _ (by omega)).trans hst
 refine AtRange.by und_mb hst4 ?_
 simp only [SS, qx13, y3, simprocAttr, ff_55]
 repeat refine qdn rfl ?_
 have k4 := (Kp.new n3 H3 (.map [] 0 3)).trans (Kp.new (n3 + 1) _ (.iter y cs.length [] cs.length))
 have hit : hset (hset H3 n3 (.map [] 0 3)) (n3 + 1) (.iter y cs.length [] cs.length) (n3 + 1) = .iter y cs.length [] cs.length := hset_at _ _ _
 have hst4 : ST (hset (hset H3 n3 (.map [] 0 3)) (n3 + 1) (.iter y cs.length [] cs.length)) y cs := (k4.keep y hyn).trans hst
 have hds : ST (hset (hset H3 n3 (.map [] 0 3)) (n3 + 1) (.iter y cs.length [] cs.length)) n3 [] := (hset_ne _ _ _ (by omega)).trans (hset_at _ _ _)
 have hb4 := (k4.keep n0 (by omega)).trans hb3
 replace k4 := k3.trans k4
 generalize hset (hset H3 n3 (.map [] 0 3)) (n3 + 1) (.iter y cs.length [] cs.length) = H4 at *
 refine WKD.loop (fun kk s' => ∃ (sn ds : List Nat), Kp n0 H0 s'.n s'.H ∧ n3 + 1 < s'.n ∧ s'.H (n3 + 1) = .iter y cs.length sn cs.length ∧ ST s'.H y cs ∧ ST s'.H n3 ds ∧ ds.Nodup ∧ (∀ c, c ∈ ds ↔ c ≤ w.length ∧ ∃ j b, j ∈ sn ∧ cs[j]? = some b ∧ b ≤ c ∧ fit w rd 0 s b c = true) ∧ sn.Nodup ∧ (∀ j, j ∈ sn → j < cs.length) ∧
  s'.H n0 = .cells (rlC r (some ⟨x, k, none⟩)) 49 true ∧ s'.f 0 = .pointer (some ⟨fo, 0, none⟩) ∧ s'.f 9 = .int .i64 s ∧ s'.f 10 = .map (some n3) ∧ s'.f 17 = .slice (some ⟨x, k, none⟩) r.right.length r.right.length ∧ s'.f 18 = .int .i64 (r.right.length : Nat) ∧ s'.f 19 = .int .i64 (i : Nat) ∧ s'.f 25 = .pointer (some ⟨n3 + 1, 0, none⟩) ∧ kk = cs.length - sn.length) cs.length ?_ ?_
 ·refine ⟨[], [], k4, by simp, hit, hst4, hds, by simp, fun c => ?_, by simp, (fun j hj => by cases hj), hb4, f0, rfl, rfl, f17, f18, f19, rfl, by simp⟩
  constructor
  ·intro h; cases h
  ·rintro ⟨_, j, b, hj, _⟩; cases hj
 clear hit hst4 hds hb4 k4 H4 f0 f7 f17 f18 f19 hx ex hb3 hst
 rintro kk ⟨f, n5, H5⟩ ⟨sn, ds, k5, hn5, hit, hst, hds, hdn, hdm, hsn, hsl, hb5, f0, f9, f10, f17, f18, f19, f25, rfl⟩ ih2
 simp only at k5 hn5 hit hst hds hb5 f0 f9 f10 f17 f18 f19 f25 ih ih2
 have hw5 := k5.wf hw0
 repeat refine qdn rfl ?_
 (refine qdr ?_; simp only [SS, qx13, y3, simprocAttr, f25, ff_55])
 refine AtNext.by hit hst vE_lt (Nat.le_refl _) (fun hall => ?_) (fun e he hen => ?_)
 ·simp only [SS, qx13, y3, simprocAttr, ff_55]
  repeat (first | refine qdm rfl ?_ | ((first | refine qdr ?_ | refine qdt ?_); simp only [SS, qx13, y3, simprocAttr, f10, f19, ff_55]))
  refine ih (r.right.length - (i + 1)) (by omega) _ ?_
  refine ⟨i + 1, n3, ds, hil, k5, by omega, hds, hdn, fun c => ?_, hb5, f0, ?_, f17, f18, ?_, rfl⟩
  ·rw [hdm c, List.take_succ_eq_append_getElem hil, hs, ends_snoc]
   refine and_congr_right fun hc => ⟨?_, ?_⟩
   ·rintro ⟨j, b, hj, hjb, h1, h2⟩
    exact ⟨b, ((hmem b).1 (List.mem_of_getElem? hjb)).2, h1, h2⟩
   ·rintro ⟨b, h1, h2, h3⟩
    have hbm := (hmem b).2 ⟨by omega, h1⟩
    obtain ⟨j, hj, he⟩ := List.getElem_of_mem hbm
    have hjb : cs[j]? = some b := by rw [List.getElem?_eq_getElem hj, he]
    exact ⟨j, b, hall _ (vE_in hjb), hjb, h2, h3⟩
  ·simp only [packed, fset_apply, Nat.reduceEqDiff, ↓reduceIte, List.getD_cons_zero, List.getD_cons_succ, f10, ff_55]
  ·simp only [packed, fset_apply, Nat.reduceEqDiff, ↓reduceIte, List.getD_cons_zero, List.getD_cons_succ, f19, wrap_up hil (show r.right.length ≤ maxL by unfold maxL; omega), ff_55]
 ·obtain ⟨j, b, hj, rfl⟩ := vE_mem he
  simp only at hen
  have hjl : j < cs.length := (List.getElem?_eq_some_iff.1 hj).1
  have hbl := hcl b (List.mem_of_getElem? hj)
  simp only [SS, qx13, y3, simprocAttr, natE, tru, ff_55]
  repeat refine qdn rfl ?_
  refine qdm rfl ?_
  repeat refine qdn rfl ?_
  have hit6 := hset_at H5 (n3 + 1) (.iter y cs.length (sn ++ [j]) cs.length)
  have k6 := k5.set (x := n3 + 1) (.iter y cs.length (sn ++ [j]) cs.length) (by omega) hn5
  have hst6 : ST (hset H5 (n3 + 1) (.iter y cs.length (sn ++ [j]) cs.length)) y cs := (hset_ne _ _ _ (by omega)).trans hst
  have hds6 : ST (hset H5 (n3 + 1) (.iter y cs.length (sn ++ [j]) cs.length)) n3 ds := (hset_ne _ _ _ (by omega)).trans hds
  have hb6 := (hset_ne H5 (n3 + 1) (.iter y cs.length (sn ++ [j]) cs.length) (x := n0) (by omega)).trans hb5
  generalize hset H5 (n3 + 1) (.iter y cs.length (sn ++ [j]) cs.length) = H6 at *
  (refine qdr ?_; simp only [SS, qx13, y3, simprocAttr, f25, ff_55])
  refine AtEntry.by (e := ⟨natE b, tru b, j⟩) hit6 hst6 he (vE_nodup ..) ?_
  simp only [SS, qx13, y3, simprocAttr, natE, tru, ff_55]
  repeat (first | refine qdm rfl ?_ | ((first | refine qdr ?_ | refine qdt ?_); simp only [SS, qx13, y3, simprocAttr, ff_55]))
  have hlt5 : sn.length < cs.length := by
   have h1 : (sn ++ [j]).Nodup := by
    rw [List.nodup_append]
    refine ⟨hsn, by simp, fun a ha b' hb' e => ?_⟩
    have : b' = j := by simpa using hb'
    subst this e
    exact hen ha
   have := nodup_bnd (k := cs.length - 1) h1 fun q hq => by
    rcases List.mem_append.1 hq with hq | hq
    ·have := hsl q hq; omega
    ·have : q = j := by simpa using hq
     omega
   rw [List.length_append, List.length_singleton] at this
   omega
  refine WKD.loop (fun kk s' => ∃ (c : Nat) (es : List Nat), b ≤ c ∧ c ≤ w.length + 1 ∧ Kp n0 H0 s'.n s'.H ∧ n3 + 1 < s'.n ∧ s'.H (n3 + 1) = .iter y cs.length (sn ++ [j]) cs.length ∧ ST s'.H y cs ∧ ST s'.H n3 es ∧ es.Nodup ∧ (∀ q, q ∈ es ↔ q ≤ w.length ∧ (q ∈ ds ∨ (b ≤ q ∧ q < c ∧ fit w rd 0 s b q = true))) ∧
   s'.H n0 = .cells (rlC r (some ⟨x, k, none⟩)) 49 true ∧ s'.f 0 = .pointer (some ⟨fo, 0, none⟩) ∧ s'.f 9 = .int .i64 s ∧ s'.f 10 = .map (some n3) ∧ s'.f 11 = .int .i64 (b : Nat) ∧ s'.f 12 = .int .i64 (c : Nat) ∧ s'.f 17 = .slice (some ⟨x, k, none⟩) r.right.length r.right.length ∧ s'.f 18 = .int .i64 (r.right.length : Nat) ∧ s'.f 19 = .int .i64 (i : Nat) ∧ s'.f 25 = .pointer (some ⟨n3 + 1, 0, none⟩) ∧ kk = w.length + 1 - c) (w.length + 1 - b) ?_ ?_
  ·refine ⟨b, ds, Nat.le_refl _, by omega, k6, hn5, hit6, hst6, hds6, hdn, fun q => ?_, hb6, f0, f9, f10, rfl, rfl, f17, f18, f19, f25, rfl⟩
   constructor
   ·intro h; exact ⟨((hdm q).1 h).1, .inl h⟩
   ·rintro ⟨_, h | h⟩
    ·exact h
    ·omega
  clear hit6 k6 hst6 hds6 hb6 H6 f0 f9 f10 f17 f18 f19 f25 hit hst hds hb5
  rintro kk ⟨f, n7, H7⟩ ⟨c, es, hbc, hcw, k7, hn7, hit7, hst7, hes, hen7, hem, hb7, f0, f9, f10, f11, f12, f17, f18, f19, f25, rfl⟩ ih3
  simp only at k7 hn7 hit7 hst7 hes hb7 f0 f9 f10 f11 f12 f17 f18 f19 f25 ih ih2 ih3
  have hf7 := hf0.mono hw0 k7
  have hm7 := hm0.mono hw0 k7
  have hfo := hf7.f
  have hw7 := k7.wf hw0
  by_cases hc : c ≤ w.length
  case neg =>
   have hc' : ((c : Int) ≤ (w.length : Int)) = False := by simp only [eq_iff_iff, iff_false]; omega
   repeat (first | refine qdm rfl ?_ | ((first | refine qdr ?_ | refine qdt ?_); simp only [SS, qx13, y3, simprocAttr, f0, f12, hfo, fo_3, aop_nc, tnc, hc', ff_55]))
   refine ih2 (cs.length - (sn ++ [j]).length) (by rw [List.length_append, List.length_singleton]; omega) _ ?_
   refine ⟨sn ++ [j], es, k7, hn7, hit7, hst7, hes, hen7, fun q => ?_, ?_, ?_, hb7, f0, f9, f10, f17, f18, f19, f25, rfl⟩
   ·rw [hem q]
    refine and_congr_right fun hq => ⟨?_, ?_⟩
    ·rintro (h | ⟨h1, h2, h3⟩)
     ·obtain ⟨_, j', b', q1, q2⟩ := (hdm q).1 h
      exact ⟨j', b', List.mem_append_left _ q1, q2⟩
     ·exact ⟨j, b, by simp, hj, h1, h3⟩
    ·rintro ⟨j', b', q1, q2, q3, q4⟩
     rcases List.mem_append.1 q1 with q1 | q1
     ·exact .inl ((hdm q).2 ⟨hq, j', b', q1, q2, q3, q4⟩)
     ·have : j' = j := by simpa using q1
      subst this
      rw [hj] at q2
      cases q2
      exact .inr ⟨q3, by omega, q4⟩
   ·rw [List.nodup_append]
    refine ⟨hsn, by simp, fun a' ha' b' hb' e => ?_⟩
    have : b' = j := by simpa using hb'
    subst this e
    exact hen ha'
   ·intro q hq
    rcases List.mem_append.1 hq with hq | hq
    ·exact hsl q hq
    ·have : q = j := by simpa using hq
     omega
  have hc' : ((c : Int) ≤ (w.length : Int)) = True := by simp only [eq_iff_iff, iff_true]; omega
  have hw1 : IntKind.i64.wrap ((c : Int) + 1) = ((c + 1 : Nat) : Int) := by rw [wrap_in (by omega) (by omega)]; rfl
  repeat (first | refine qdm rfl ?_ | ((first | refine qdr ?_ | refine qdt ?_); simp only [SS, qx13, y3, simprocAttr, f0, f9, f11, f12, hfo, fo_3, aop_nc, tnc, hc', ff_55]))
  refine AtCallY.by (fits_gives (ah := 0) hf7 hm7 hwl hsm.1 hsm.2 hbc hc (by omega)) ?_
  rintro v n' H' _ ⟨rfl, rfl, rfl⟩
  have hesl : ∀ q, q ∈ es → q ≤ 1000000 := fun q hq => by have := ((hem q).1 hq).1; omega
  cases hft : fit w rd 0 s b c with
  | false =>
   simp only [SS, qx13, y3, simprocAttr, ff_55]
   repeat (first | refine qdm rfl ?_ | ((first | refine qdr ?_ | refine qdt ?_); simp only [SS, qx13, y3, simprocAttr, f12, hw1, ff_55]))
   refine ih3 (w.length + 1 - (c + 1)) (by omega) _ ?_
   refine ⟨c + 1, es, by omega, by omega, k7, hn7, hit7, hst7, hes, hen7, fun q => ?_, hb7, f0, f9, f10, f11, rfl, f17, f18, f19, f25, rfl⟩
   rw [hem q]
   refine and_congr_right fun hq => or_congr_right ⟨?_, ?_⟩
   ·rintro ⟨h1, h2, h3⟩; exact ⟨h1, by omega, h3⟩
   ·rintro ⟨h1, h2, h3⟩
    refine ⟨h1, ?_, h3⟩
    rcases Nat.lt_or_ge q c with h | h
    ·exact h
    ·obtain rfl : q = c := by omega
     rw [hft] at h3; cases h3
  | true =>
   have e1 : natE c = .int .i64 (c : Int) := rfl
   have e2 : tru c = .bool true := rfl
   by_cases hce : c ∈ es
   ·have hput := gkC.vsame (val := tru) (k := c) (by omega) hesl hce und_mb hes
    rw [e1, e2] at hput
    have hself : hset H' n3 (.map (vE natE tru es 0) es.length 3) = H' := by
     funext z
     by_cases hz : z = n3
     ·subst hz; rw [hset_at]; exact hes.symm
     ·rw [hset_ne _ _ _ hz]
    simp only [SS, qx13, y3, simprocAttr, ff_55]
    repeat (first | refine qdm rfl ?_ | ((first | refine qdr ?_ | refine qdt ?_); simp only [SS, qx13, y3, simprocAttr, f10, f12, hw1, aop_mapset, hput, hself, ff_55]))
    refine ih3 (w.length + 1 - (c + 1)) (by omega) _ ?_
    refine ⟨c + 1, es, by omega, by omega, k7, hn7, hit7, hst7, hes, hen7, fun q => ?_, hb7, f0, f9, f10, f11, rfl, f17, f18, f19, f25, rfl⟩
    rw [hem q]
    refine and_congr_right fun hq => ⟨?_, ?_⟩
    ·rintro (h | ⟨h1, h2, h3⟩)
     ·exact .inl h
     ·exact .inr ⟨h1, by omega, h3⟩
    ·rintro (h | ⟨h1, h2, h3⟩)
     ·exact .inl h
     ·rcases Nat.lt_or_ge q c with h | h
      ·exact .inr ⟨h1, h, h3⟩
      ·obtain rfl : q = c := by omega
       exact ((hem q).1 hce).2
   ·have hput := gkC.vput (val := tru) (val' := tru) (k := c) (by omega) hesl hce und_mb hes (fun _ _ => rfl)
    rw [e1, e2] at hput
    simp only [SS, qx13, y3, simprocAttr, ff_55]
    repeat (first | refine qdm rfl ?_ | ((first | refine qdr ?_ | refine qdt ?_); simp only [SS, qx13, y3, simprocAttr, f10, f12, hw1, aop_mapset, hput, ff_55]))
    refine ih3 (w.length + 1 - (c + 1)) (by omega) _ ?_
    refine ⟨c + 1, es ++ [c], by omega, by omega, k7.set _ (by omega) (by omega), hn7, (hset_ne _ _ _ (by omega)).trans hit7, (hset_ne _ _ _ (by omega)).trans hst7, hset_at _ _ _, ?_, fun q => ?_, (hset_ne _ _ _ (by omega)).trans hb7, f0, f9, f10, f11, rfl, f17, f18, f19, f25, rfl⟩
    ·rw [List.nodup_append]
     refine ⟨hen7, by simp, fun a' ha' b' hb' e => ?_⟩
     have : b' = c := by simpa using hb'
     subst this e
     exact hce ha'
    ·rw [List.mem_append, hem q]
     constructor
     ·rintro (⟨hq, h⟩ | h)
      ·refine ⟨hq, ?_⟩
       rcases h with h | ⟨h1, h2, h3⟩
       ·exact .inl h
       ·exact .inr ⟨h1, by omega, h3⟩
      ·have : q = c := by simpa using h
       subst this
       exact ⟨hc, .inr ⟨hbc, by omega, hft⟩⟩
     ·rintro ⟨hq, h | ⟨h1, h2, h3⟩⟩
      ·exact .inl ⟨hq, .inl h⟩
      ·rcases Nat.lt_or_ge q c with h | h
       ·exact .inl ⟨hq, .inr ⟨h1, h, h3⟩⟩
       ·obtain rfl : q = c := by omega
        exact .inr (by simp)
end Go.Proofs.Ytemkglelfeidhaa
