/- A part of a proof. Its conditions: none. -/
import Derived.Test.YtemkglelfeidhaaAmJFoUp
set_option linter.all false
namespace Go.Proofs.Ytemkglelfeidhaa
open Go.AM Go.AM.Fo Go.RowKit
set_option maxRecDepth 100000
def par0 (_ : Nd) : Nd × Int := ((0, 0, 0), -1)
theorem WL.two {H : Heap} {N : Nat} {v : Value} {y y' : Fo.Way} (h : WL H N v [y, y']) : ∃ (z : Nat) (p p' : Option Addr), v = .slice (some ⟨z, 0, none⟩) 2 2 ∧ N ≤ z ∧ H z = .cells (wyC p y ++ wyC p' y') 82 true ∧ RS (fun c : Nat => Value.int .i64 (c : Int)) H p y.2 ∧ RS (fun c : Nat => Value.int .i64 (c : Int)) H p' y'.2 := by
 rcases h with ⟨h, _⟩ | ⟨z, qs, h1, _, h3, h4, h5, h6⟩
 ·cases h
 ·match qs, h1, h5, h6 with
  | [q, q'], h1, h5, h6 =>
   have e : q.2 = y ∧ q'.2 = y' := by simpa using h1
   refine ⟨z, q.1, q'.1, h3, h4, ?_, ?_, ?_⟩
   ·rw [h5, ← e.1, ← e.2]; simp
   ·rw [← e.1]; exact h6 q (by simp)
   ·rw [← e.2]; exact h6 q' (by simp)
theorem wy2_len (p p' : Option Addr) (y y' : Fo.Way) : (wyC p y ++ wyC p' y').length = 4 := rfl
theorem wy2_0 (p p' : Option Addr) (y y' : Fo.Way) : List.take 2 (List.drop 0 (wyC p y ++ wyC p' y')) = wyC p y := rfl
theorem wy2_0' (p p' : Option Addr) (y y' : Fo.Way) : List.take 2 (wyC p y ++ wyC p' y') = wyC p y := rfl
theorem wy2_1 (p p' : Option Addr) (y y' : Fo.Way) : List.take 2 (List.drop 2 (wyC p y ++ wyC p' y')) = wyC p' y' := rfl
theorem zero_step : (Try.prog.info? 74).bind (·.zero) = some (stV ((0, 0, 0), 0)) := by kernel_rfl
theorem MC.look2 {H : Heap} {mc : Nat} {todo : List Nd} {par : Nd → Nd × Int} (h : MC H mc todo par) {x : Nd} (hx : smN x) : ∃ (q : Nd × Int) (b : Bool), (b = true ↔ x ∈ todo) ∧ alookup Try.prog 75 H (.map (some mc)) (.agg (ndC x).toArray) true = some { v := .tuple #[.agg (stC q).toArray, .bool b], rd := [mc] } := by
 by_cases hm : x ∈ todo
 ·exact ⟨par x, true, by simp [hm], gkN.vyes hx h.sm hm und_ms h.m true⟩
 ·exact ⟨((0, 0, 0), 0), false, by simp [hm], gkN.vno hx h.sm hm und_ms zero_step rfl h.m true⟩
section
variable {fo m n0 N0 : Nat} {pt pv pr pw : Option Addr} {g : Gram} {w : List Int} {ks : List Nd} {rd : Nd → Nat} {H0 : Heap}
theorem cm_len {todo : List Nd} {par : Nd → Nd × Int} (ok : FoOK g w rd) (hwl : w.length ≤ 10) (c : Cm g w rd todo par) : todo.length ≤ 968 := by
 have := nodes_len (k := 8) (L := 10) c.nd fun x hx => by
  obtain ⟨h1, h2⟩ := c.ok x hx
  obtain ⟨v1, v2, v3⟩ := ok.val x h1
  exact ⟨v1, by omega, by omega, by omega⟩
 omega
def TwoQ (g : Gram) (w : List Int) (v : Value) (H' : Heap) : Prop := (∃ (a b : Value) (oa ob : List Int), v = .tuple #[a, b, .bool true] ∧ oa ≠ ob ∧ Dv g [0] oa w ∧ Dv g [0] ob w ∧ FI H' 0 a oa ∧ FI H' 0 b ob ∧ oa.length ≤ bigN ∧ ob.length ≤ bigN) ∨ (v = .tuple #[.slice none 0 0, .slice none 0 0, .bool false] ∧ ∀ d d', Dv g [0] d w → Dv g [0] d' w → d = d')
set_option maxHeartbeats 16000000 in
theorem two_gives {n : Nat} {H : Heap} (hw0 : WF n0 H0) (md : Made H0 N0 fo m pt pv pr pw g w ks rd) (hwl : w.length ≤ 10) (sg : Sgm g) (hk : Kp n0 H0 n H) :
  Gives Try.prog 18 [.pointer (some ⟨fo, 0, none⟩)] n H fun v n' H' => TwoQ g w v H' := by
 refine Gives.of orders ok18 (Nat.le_of_ble_eq_true rfl) ?_
 have hw := hk.wf hw0
 have mdn := md.mono hw0 hk
 have hfo := mdn.f.f
 have hsx : smN (root w) := by unfold smN root; simp only; omega
 repeat (first | refine qqm rfl ?_ | ((first | refine qqr ?_ | refine qqt ?_); simp only [SS, qx5, vun, simprocAttr, -Int.reduceOfNat, -List.reduceReplicate, hfo, fo_4, aop_nc, tnc, aop_look, ff_18]))
 refine AtCall.by (root_gives hw mdn.f) ?_
 rintro v n1 H1 k1 rfl
 have hw1 := k1.wf hw
 have md1 := mdn.mono hw k1
 have hlk := md1.mr.look hsx
 by_cases h0 : rd (root w) = 0
 ·have h0' : (((rd (root w) : Nat) : Int) = 0) = True := by simp only [eq_iff_iff, iff_true]; omega
  simp only [SS, qx5, vun, simprocAttr, -Int.reduceOfNat, -List.reduceReplicate, hlk, h0', aop_look, ff_18]
  repeat (first | refine qqm rfl ?_ | ((first | refine qqr ?_ | refine qqt ?_); simp only [SS, qx5, vun, simprocAttr, -Int.reduceOfNat, -List.reduceReplicate, ff_18]))
  (first | refine WK.retNil ⟨Or.inr rfl, _, rfl, ?_, ?_⟩ | refine WK.skipNil ⟨Or.inl rfl, _, rfl, ?_, ?_⟩)
  ·exact k1.keep
  ·simp only [packed, fset_apply, Nat.reduceEqDiff, ↓reduceIte, List.getD_cons_zero, List.getD_cons_succ, ff_18]
   refine .inr ⟨rfl, fun d d' hd _ => ?_⟩
   exact absurd h0 (md.ok.has sg.ing (x := root w) (Int.le_refl 0) (Nat.zero_le _) (Nat.le_refl _) (d := d) (by show Dv g [0] d (sub w 0 w.length); rw [sub_all]; exact hd))
 have h0' : (((rd (root w) : Nat) : Int) = 0) = False := by simp only [eq_iff_iff, iff_false]; omega
 simp only [SS, qx5, vun, simprocAttr, -Int.reduceOfNat, -List.reduceReplicate, hlk, h0', aop_look, aop_makemap, amake, und_ms, ff_18]
 repeat (first | refine qqm rfl ?_ | ((first | refine qqr ?_ | refine qqt ?_); simp only [SS, qx5, vun, simprocAttr, -Int.reduceOfNat, -List.reduceReplicate, aop_makemap, amake, und_ms, List.length_nil, ff_18]))
 have kA := Kp.new n1 H1 (.map [] 0 67)
 have hmA := hset_at H1 n1 (.map [] 0 67)
 generalize hset H1 n1 (.map [] 0 67) = HA at *
 have hwA := kA.wf hw1
 refine AtCall.by (root_gives hwA (md1.mono hw1 kA).f) ?_
 rintro v n2 H2 k2 rfl
 have hw2 := k2.wf hwA
 have hle1 := k1.le
 have hle2 := k2.le
 have hm2 := (k2.keep n1 (by omega)).trans hmA
 have hput : amapset Try.prog 75 H2 (.map (some n1)) (ndV (root w)) (.agg #[Value.int IntKind.i64 (Int.ofNat 0), Value.int IntKind.i64 (Int.ofNat 0), Value.int IntKind.i64 (Int.ofNat 0), Value.int IntKind.i64 (-1)]) = some { v := undef, wr := some (n1, .map (vE ndV (fun x => stV (par0 x)) [root w] 0) 1 67) } :=
  gkN.vput (val := fun x => stV (par0 x)) (val' := fun x => stV (par0 x)) (k := root w) (ks := []) hsx (fun a h => by cases h) (by simp) und_ms hm2 (fun a h => by cases h)
 have kB := (k1.trans (kA.trans k2)).set (x := n1) (.map (vE ndV (fun x => stV (par0 x)) [root w] 0) 1 67) (by omega) (by omega)
 have hmB := hset_at H2 n1 (.map (vE ndV (fun x => stV (par0 x)) [root w] 0) 1 67)
 simp only [SS, qx5, vun, simprocAttr, -Int.reduceOfNat, -List.reduceReplicate, aop_insert, hput, ff_18]
 generalize hset H2 n1 (.map (vE ndV (fun x => stV (par0 x)) [root w] 0) 1 67) = HB at *
 have hwB := kB.wf hw
 have mdB := mdn.mono hw kB
 have sp3r : AM.splice [Value.int IntKind.i64 (Int.ofNat 0), .int .i64 (Int.ofNat 0), .int .i64 (Int.ofNat 0)] 0 (vcells (ndV (root w))) = ndC (root w) := rfl
 have one3 : (vcells (ndV (root w))).all one = true := rfl
 have len3 : (vcells (ndV (root w))).length = 3 := rfl
 repeat (first | refine qqm rfl ?_ | ((first | refine qqr ?_ | refine qqt ?_); simp only [SS, qx5, vun, simprocAttr, -Int.reduceOfNat, -List.reduceReplicate, ff_18]))
 refine AtCall.by (root_gives hwB mdB.f) ?_
 rintro v n3 H3 k3 rfl
 have hw3 := k3.wf hwB
 have hle3 := k3.le
 simp only [SS, qx5, vun, simprocAttr, -Int.reduceOfNat, -List.reduceReplicate, sp3r, one3, len3, ff_18]
 repeat (first | refine qqm rfl ?_ | ((first | refine qqr ?_ | refine qqt ?_); simp only [SS, qx5, vun, simprocAttr, -Int.reduceOfNat, -List.reduceReplicate, ff_18]))
 have kC := Kp.new n3 H3 (.cells (ndC (root w)) 67 true)
 have hC := hset_at H3 n3 (.cells (ndC (root w)) 67 true)
 have hmC := ((k3.trans kC).keep n1 (by omega)).trans hmB
 generalize hset H3 n3 (.cells (ndC (root w)) 67 true) = HC at *
 refine WK.loop (fun kk s => ∃ (i : Nat) (todo : List Nd) (par : Nd → Nd × Int), i ≤ todo.length ∧ Cm g w rd todo par ∧ Once g w rd todo i ∧ MC s.H n1 todo par ∧ NL s.H (n1 + 1) (s.f 6) todo ∧ Kp n H s.n s.H ∧ n1 < s.n ∧ s.f 0 = .pointer (some ⟨fo, 0, none⟩) ∧ s.f 5 = .map (some n1) ∧ s.f 7 = .int .i64 (i : Nat) ∧ kk = 968 - i) 968 ?_ ?_
 ·refine ⟨0, [root w], par0, by simp, Cm.start md.ok h0 (by show (-1 : Int) < 0; omega), ⟨fun j x hj => by omega⟩, ⟨hmC, fun x hx => ?_⟩, .inr ⟨by simp, n3, rfl, by omega, by simpa using hC⟩, kB.trans (k3.trans kC), by show n1 < n3 + 1; omega, rfl, rfl, rfl, rfl⟩
  obtain rfl : x = root w := by simpa using hx
  exact hsx
 clear hC hmC kC hmB kB k3 hput hm2 hmA kA k2 hlk mdB
 rintro kk ⟨f, n4, H4⟩ ⟨i, todo, par, hi, c, on, hmc, hnl, k4, hn4, f0, f5, f7, rfl⟩ ih
 simp only at hmc hnl k4 hn4 f0 f5 f7 ih
 have hw4 := k4.wf hw
 have hle4 := k4.le
 have md4 := mdn.mono hw k4
 have htl := cm_len md.ok hwl c
 rcases hnl with ⟨h1, _⟩ | ⟨hne, zt, f6, hzt0, hzt⟩
 ·have := c.ne; rw [h1] at this; cases this
 have hztn := live_m hw4 (z := zt) (by rw [hzt]; intro e; cases e)
 by_cases hil : i < todo.length
 case neg =>
  have hil' : ((i : Int) < (todo.length : Int)) = False := by simp only [eq_iff_iff, iff_false]; omega
  obtain rfl : i = todo.length := by omega
  repeat (first | refine qqm rfl ?_ | ((first | refine qqr ?_ | refine qqt ?_); simp only [SS, qx5, vun, simprocAttr, -Int.reduceOfNat, -List.reduceReplicate, f6, f7, hil', ff_18]))
  (first | refine WK.retNil ⟨Or.inr rfl, _, rfl, ?_, ?_⟩ | refine WK.skipNil ⟨Or.inl rfl, _, rfl, ?_, ?_⟩)
  ·exact k4.keep
  ·simp only [packed, fset_apply, Nat.reduceEqDiff, ↓reduceIte, List.getD_cons_zero, List.getD_cons_succ, ff_18]
   exact .inr ⟨rfl, fun d d' hd hd' => on.uniq c md.ok sg.ing hd hd'⟩
 have hil' : ((i : Int) < (todo.length : Int)) = True := by simp only [eq_iff_iff, iff_true]; omega
 have h0i : (0 : Int) ≤ (i : Int) := Int.natCast_nonneg i
 obtain ⟨x, hx⟩ : ∃ x, todo[i] = x := ⟨_, rfl⟩
 have hxg : todo[i]? = some x := by rw [List.getElem?_eq_getElem hil, hx]
 have hxm : x ∈ todo := List.mem_of_getElem? hxg
 obtain ⟨hrd, h8⟩ := c.ok x hxm
 obtain ⟨v1, v2, v3⟩ := md.ok.val x hrd
 have hat := ndcs_at hxg
 have hln : i * 3 + 3 ≤ (todo.flatMap ndC).length := by rw [ndcs_len]; omega
 repeat (first | refine qqm rfl ?_ | ((first | refine qqr ?_ | refine qqt ?_); simp only [SS, qx5, vun, simprocAttr, -Int.reduceOfNat, -List.reduceReplicate, f0, f6, f7, hil', hil, h0i, hzt, hat, hln, ndC_len, ndC_one, ndC_all, ndC_cells, tk3, tk4, sp3, hset_at, Int.toNat_natCast, Nat.zero_add, ff_18]))
 have k5 := Kp.new n4 H4 (.cells (ndC x) 67 true)
 have bx := hset_at H4 n4 (.cells (ndC x) 67 true)
 generalize hset H4 n4 (.cells (ndC x) 67 true) = H5 at *
 have hw5 := k5.wf hw4
 have md5 := md4.mono hw4 k5
 refine AtCall.by (first_gives (x := x) hw5 md5.f md5.mr hwl sg v2 v3) ?_
 rintro v n6 H6 k6 hwl6
 have hw6 := k6.wf hw5
 have hle6 := k6.le
 have bx6 := (k6.keep n4 (by omega)).trans bx
 have k46 := k5.trans k6
 have mc6 := hmc.mono hw4 k46
 have hzt6 := (k46.keep zt hztn).trans hzt
 cases hL : waysL g w rd 0 x with
 | nil =>
  obtain ⟨yw, hyw⟩ := md.ok.sound x hrd
  have := ways_weak hyw
  rw [hL] at this; cases this
 | cons y ys =>
  have hym : y ∈ waysL g w rd 0 x := by rw [hL]; simp
  rw [hL] at hwl6
  cases ys with
  | cons y' ys =>
   have hym' : y' ∈ waysL g w rd 0 x := by rw [hL]; simp
   have hyy : y ≠ y' := by
    have := ways_nodup (g := g) w rd 0 x
    rw [hL] at this
    intro e
    subst e
    simp at this
   obtain ⟨z, p, p', rfl, hz0, hz, hp, hp'⟩ := hwl6.two
   have h22 : (((2 : Nat) : Int) = 2) = True := by simp
   have h02 : ((0 : Int) < ((2 : Nat) : Int)) = True := by simp
   have h12 : ((1 : Int) < ((2 : Nat) : Int)) = True := by simp
   have k06 := hk.trans (k4.trans k46)
   have hdv : ∀ y ∈ waysL g w rd 0 x, Dv g [x.1] (byL g w rd x y (-1) []) (sub w x.2.1 x.2.2) := fun y hy => md.ok.by_dv sg.ing hrd hy (fun i z hi _ => by omega)
   have hbd : ∀ y ∈ waysL g w rd 0 x, (byL g w rd x y (-1) []).length + vC * i ≤ 16 * vM * (x.2.2 - x.2.1) + vC * 969 := fun y hy => by
    have h1 := md.ok.by_len sg.ing (sg.sml hwl) hy
    have h2 : vC * i + vC ≤ vC * 969 := by rw [← Nat.mul_succ]; exact Nat.mul_le_mul (Nat.le_refl _) (by omega)
    omega
   simp only [SS, qx5, vun, simprocAttr, -Int.reduceOfNat, -List.reduceReplicate, ff_18]
   repeat refine qqn rfl ?_
   (refine qqr ?_; simp only [SS, qx5, vun, simprocAttr, -Int.reduceOfNat, -List.reduceReplicate, h22, ff_18])
   repeat refine qqn rfl ?_
   refine qqm rfl ?_
   repeat refine qqn rfl ?_
   (refine qqr ?_; simp only [SS, qx5, vun, simprocAttr, -Int.reduceOfNat, -List.reduceReplicate, f0, f5, bx6, ndC_all, ndC_len, hz, wy2_len, wy2_0, wy2_0', wy2_1, h02, h12, ff_18])
   refine AtCall.by (by_gives2 (x := x) hw0 md hwl sg k06 hym hp (wh := -1) (own := []) (.inl (by omega)) (by_small md.ok sg hwl hrd hym)) ?_
   rintro va n7 H7 k7 ha
   have hw7 := k7.wf hw6
   simp only [SS, qx5, vun, simprocAttr, -Int.reduceOfNat, -List.reduceReplicate, ff_18]
   refine AtCall.by (up_gives hw0 md hwl sg (k06.trans k7) c (mc6.mono hw6 k7) htl hxg (ha.weak (Nat.zero_le _)) (hbd y hym)) ?_
   rintro va2 n8 H8 k8 ⟨oa, hua, hoa, hla⟩
   have hw8 := k8.wf hw7
   have k68 := k7.trans k8
   have hle8 := k68.le
   have bx8 := (k68.keep n4 (by omega)).trans bx6
   have hz8 := (k68.keep z (live_m hw6 (by rw [hz]; intro e; cases e))).trans hz
   simp only [SS, qx5, vun, simprocAttr, -Int.reduceOfNat, -List.reduceReplicate, f0, f5, bx8, ndC_all, ndC_len, hz8, wy2_len, wy2_0, wy2_0', wy2_1, h02, h12, ff_18]
   refine AtCall.by (by_gives2 (x := x) hw0 md hwl sg (k06.trans k68) hym' (hp'.mono hw6 k68) (wh := -1) (own := []) (.inl (by omega)) (by_small md.ok sg hwl hrd hym')) ?_
   rintro vb n9 H9 k9 hb
   have hw9 := k9.wf hw8
   simp only [SS, qx5, vun, simprocAttr, -Int.reduceOfNat, -List.reduceReplicate, ff_18]
   refine AtCall.by (up_gives hw0 md hwl sg (k06.trans (k68.trans k9)) c (mc6.mono hw6 (k68.trans k9)) htl hxg (hb.weak (Nat.zero_le _)) (hbd y' hym')) ?_
   rintro vb2 n10 H10 k10 ⟨ob, hub, hob, hlb⟩
   simp only [SS, qx5, vun, simprocAttr, -Int.reduceOfNat, -List.reduceReplicate, ff_18]
   repeat (first | refine qqm rfl ?_ | ((first | refine qqr ?_ | refine qqt ?_); simp only [SS, qx5, vun, simprocAttr, -Int.reduceOfNat, -List.reduceReplicate, ff_18]))
   (first | refine WK.retNil ⟨Or.inr rfl, _, rfl, ?_, ?_⟩ | refine WK.skipNil ⟨Or.inl rfl, _, rfl, ?_, ?_⟩)
   ·exact (k4.trans (k46.trans (k68.trans (k9.trans k10)))).keep
   ·simp only [packed, fset_apply, Nat.reduceEqDiff, ↓reduceIte, List.getD_cons_zero, List.getD_cons_succ, ff_18]
    exact .inl ⟨va2, vb2, oa, ob, rfl, c.up_ne i x _ _ _ _ hxg (by_unlike md.ok sg.ing hrd hym hym' hyy) hua hub, c.up_dv md.ok sg.ing i x _ _ hxg (hdv y hym) hua, c.up_dv md.ok sg.ing i x _ _ hxg (hdv y' hym') hub, hoa.mono hw8 (k9.trans k10), hob, hla, hlb⟩
  | nil =>
   obtain ⟨zl, p, rfl, hzl0, hzl, hp⟩ := hwl6.one
   have hm := mem_ways.1 hym
   have hyl := Seg.len hm.2.2
   have h12 : (((1 : Nat) : Int) = 2) = False := by simp
   have h01 : ((0 : Int) < ((1 : Nat) : Int)) = True := by simp
   simp only [SS, qx5, vun, simprocAttr, -Int.reduceOfNat, -List.reduceReplicate, ff_18]
   repeat refine qqn rfl ?_
   (refine qqr ?_; simp only [SS, qx5, vun, simprocAttr, -Int.reduceOfNat, -List.reduceReplicate, h12, ff_18])
   repeat refine qqn rfl ?_
   refine qqm rfl ?_
   repeat (first | refine qqm rfl ?_ | ((first | refine qqr ?_ | refine qqt ?_); simp only [SS, qx5, vun, simprocAttr, -Int.reduceOfNat, -List.reduceReplicate, f0, bx6, ndC_all, ndC_len, hzl, wy_all, wy_len, h01, ff_18]))
   have md6 := md5.mono hw5 k6
   refine AtCall.by (kids_gives (x := x) hw6 md6.f sg hm.1 hyl hp) ?_
   rintro v n7 H7 k7 hnk
   have hw7 := k7.wf hw6
   have hle7 := k7.le
   have hKl := kids_len (rgt g y.1) x.2.1 y.2 hyl
   have hr8 : (rgt g y.1).length ≤ 8 := by rw [rgF_eq hm.1]; exact sg.r8 _ (List.getElem_mem hm.1)
   obtain ⟨K, hK⟩ : ∃ K, kidsL (rgt g y.1) x.2.1 y.2 = K := ⟨_, rfl⟩
   rw [hK] at hnk hKl
   obtain ⟨pk, rfl⟩ : ∃ pk, v = .slice pk K.length K.length := by
    rcases hnk with ⟨h1, h2⟩ | ⟨_, z, h2, _⟩
    ·exact ⟨none, by rw [h2, h1]; rfl⟩
    ·exact ⟨_, h2⟩
   have k67 := k46.trans k7
   simp only [SS, qx5, vun, simprocAttr, -Int.reduceOfNat, -List.reduceReplicate, ff_18]
   repeat refine qqn rfl ?_
   refine WK.loop (fun kk s => ∃ (q : Nat) (todo' : List Nd) (par' : Nd → Nd × Int), q ≤ K.length ∧ Cm g w rd todo' par' ∧ Once g w rd todo' i ∧ (∀ (p : Nat) z, p < q → K[p]? = some z → 0 ≤ z.1 → z ∈ todo') ∧ todo'[i]? = some x ∧ MC s.H n1 todo' par' ∧ NL s.H (n1 + 1) (s.f 6) todo' ∧ Kp n H s.n s.H ∧ n7 ≤ s.n ∧ s.H n4 = .cells (ndC x) 67 true ∧ NL s.H n6 (.slice pk K.length K.length) K ∧ (∀ (z l c : Nat), s.f 6 = .slice (some ⟨z, 0, none⟩) l c → z ≠ n4 ∧ ∀ z', pk = some ⟨z', 0, none⟩ → z ≠ z') ∧
    s.f 0 = .pointer (some ⟨fo, 0, none⟩) ∧ s.f 5 = .map (some n1) ∧ s.f 7 = .int .i64 (i : Nat) ∧ s.f 8 = .pointer (some ⟨n4, 0, none⟩) ∧ s.f 71 = .slice pk K.length K.length ∧ s.f 72 = .int .i64 (K.length : Nat) ∧ s.f 73 = .int .i64 (q : Nat) ∧ kk = K.length - q) K.length ?_ ?_
   ·refine ⟨0, todo, par, Nat.zero_le _, c, on, (fun p z hp => by omega), hxg, mc6.mono hw6 k7, .inr ⟨hne, zt, f6, hzt0, (k67.keep zt hztn).trans hzt⟩, k4.trans k67, Nat.le_refl _, (k7.keep n4 (by omega)).trans bx6, hnk, ?_, f0, f5, f7, rfl, rfl, rfl, rfl, rfl⟩
    intro z l c' e
    have e2 : f 6 = .slice (some ⟨z, 0, none⟩) l c' := e
    rw [f6] at e2
    have hz : zt = z := by injection e2 with e3; injection e3 with e4; injection e4
    refine ⟨by omega, fun z' e3 => ?_⟩
    rcases hnk with ⟨_, h2⟩ | ⟨_, z3, h2, h3, _⟩
    ·rw [e3] at h2; cases h2
    ·rw [e3] at h2
     have : z' = z3 := by injection h2 with e5; injection e5 with e6; injection e6
     omega
   clear mc6 hzt6 hzt f6 hzl hnk bx bx6 hwl6 hmc k67 hp
   rintro kk ⟨f, n8, H8⟩ ⟨q, todo', par', hq, c', on', hpre, hxi, hmc, hnl, k8, hn8, bx, hnk, hap, f0, f5, f7, f8, f71, f72, f73, rfl⟩ ih2
   simp only at hmc hnl k8 hn8 bx hnk hap f0 f5 f7 f8 f71 f72 f73 ih ih2
   have hw8 := k8.wf hw
   have hle8 := k8.le
   have htl' := cm_len md.ok hwl c'
   by_cases hql : q < K.length
   case neg =>
    have hql' : ((q : Int) < (K.length : Int)) = False := by simp only [eq_iff_iff, iff_false]; omega
    have hwr := wrap_up (i := i) (m := 968) (by omega) (by unfold maxL; omega)
    repeat (first | refine qqm rfl ?_ | ((first | refine qqr ?_ | refine qqt ?_); simp only [SS, qx5, vun, simprocAttr, -Int.reduceOfNat, -List.reduceReplicate, f7, f72, f73, hql', hwr, ff_18]))
    refine ih (968 - (i + 1)) (by omega) _ ?_
    have hil3 := (List.getElem?_eq_some_iff.1 hxi).1
    refine ⟨i + 1, todo', par', hil3, c', ⟨fun j a hj ha => ?_⟩, hmc, hnl, k8, by show n1 < n8; omega, f0, f5, ?_, rfl⟩
    ·by_cases hji : j = i
     ·subst hji
      rw [hxi] at ha
      cases ha
      refine ⟨y, hL, fun z hz h0 => ?_⟩
      rw [hK] at hz
      obtain ⟨p, hp, he⟩ := List.getElem_of_mem hz
      exact hpre p z (by omega) (by rw [List.getElem?_eq_getElem hp, he]) h0
     ·exact on'.one j a (by omega) ha
    ·simp only [packed, fset_apply, Nat.reduceEqDiff, ↓reduceIte, List.getD_cons_zero, List.getD_cons_succ, hwr, ff_18]
   have hql' : ((q : Int) < (K.length : Int)) = True := by simp only [eq_iff_iff, iff_true]; omega
   have h0q : (0 : Int) ≤ (q : Int) := Int.natCast_nonneg q
   rcases hnk with ⟨h1, _⟩ | ⟨hKe, zk, h2, hzk0, hzk⟩
   ·rw [h1] at hql; simp at hql
   obtain ⟨rfl, _⟩ : pk = some ⟨zk, 0, none⟩ ∧ True := ⟨by cases h2; rfl, trivial⟩
   obtain ⟨z, hz⟩ : ∃ z, K[q] = z := ⟨_, rfl⟩
   have hzg : K[q]? = some z := by rw [List.getElem?_eq_getElem hql, hz]
   have hat2 := ndcs_at hzg
   have hln2 : q * 3 + 3 ≤ (K.flatMap ndC).length := by rw [ndcs_len]; omega
   have hzk8 : z.1 < 8 := way_kid8 sg.ing (sg.sml hwl) hym (by rw [hK]; exact List.mem_of_getElem? hzg)
   obtain ⟨s1, s2, s3, s4⟩ := Seg.kid hm.2.2 q z (by rw [hK]; exact hzg)
   have hsz : smN z := by
    have : -1 ≤ z.1 := by rcases s4 with s4 | s4 <;> omega
    unfold smN
    omega
   have kz := Kp.new n8 H8 (.cells (ndC z) 67 true)
   have q1 : ∀ (H : Heap) ob, hset H n8 ob n1 = H n1 := fun H ob => hset_ne _ _ _ (by omega)
   obtain ⟨q0, b, hb, hlk⟩ := (hmc.mono hw8 kz).look2 hsz
   have sp4 : ∀ q, AM.splice [Value.int IntKind.i64 (Int.ofNat 0), Value.int IntKind.i64 (Int.ofNat 0), Value.int IntKind.i64 (Int.ofNat 0), Value.int IntKind.i64 (Int.ofNat 0)] 0 (stC q) = stC q := fun q => rfl
   have q2 : ∀ (H : Heap) ob, hset H (n8 + 1) ob n8 = H n8 := fun H ob => hset_ne _ _ _ (by omega)
   repeat (first | refine qqm rfl ?_ | ((first | refine qqr ?_ | refine qqt ?_); simp only [SS, qx5, vun, simprocAttr, -Int.reduceOfNat, -List.reduceReplicate, f5, f71, f72, f73, hql', hql, h0q, hzk, hat2, hln2, ndC_len, ndC_one, ndC_all, ndC_cells, ndC_0, tk3, tk4, sp3, sp4, hset_at, aop_look, hlk, st_cells, st_one, st_len, q2, Int.toNat_natCast, Nat.zero_add, ff_18]))
   have kz2 := kz.trans (Kp.new (n8 + 1) (hset H8 n8 (.cells (ndC z) 67 true)) (.cells (stC q0) 74 true))
   have bz := (q2 (hset H8 n8 (.cells (ndC z) 67 true)) (.cells (stC q0) 74 true)).trans (hset_at _ _ _)
   generalize hset (hset H8 n8 (.cells (ndC z) 67 true)) (n8 + 1) (.cells (stC q0) 74 true) = H9 at *
   have hw9 := kz2.wf hw8
   have bx9 := (kz2.keep n4 (by omega)).trans bx
   have hmc9 := hmc.mono hw8 kz2
   have hzk9 := (kz2.keep zk (live_m hw8 (by rw [hzk]; intro e; cases e))).trans hzk
   have hwr := wrap_up (i := q) (m := 8) (by omega) (by unfold maxL; omega)
   have hnl9 : NL H9 (n1 + 1) (f 6) todo' := by
    rcases hnl with h | ⟨h1, z', h2, h3, h4⟩
    ·exact .inl h
    ·exact .inr ⟨h1, z', h2, h3, (kz2.keep z' (live_m hw8 (by rw [h4]; intro e; cases e))).trans h4⟩
   have hseen : (0 ≤ z.1 → z ∈ todo') → ∀ (p : Nat) a, p < q + 1 → K[p]? = some a → 0 ≤ a.1 → a ∈ todo' := fun h p a hp ha h0 => by
    by_cases hpq : p = q
    ·subst hpq
     rw [hzg] at ha
     cases ha
     exact h h0
    ·exact hpre p a (by omega) ha h0
   by_cases h0 : 0 ≤ z.1
   case neg =>
    simp only [SS, qx5, vun, simprocAttr, -Int.reduceOfNat, -List.reduceReplicate, h0, decide_false, ff_18]
    repeat (first | refine qqm rfl ?_ | ((first | refine qqr ?_ | refine qqt ?_); simp only [SS, qx5, vun, simprocAttr, -Int.reduceOfNat, -List.reduceReplicate, f73, hwr, ff_18]))
    refine ih2 (K.length - (q + 1)) (by omega) _ ?_
    exact ⟨q + 1, todo', par', hql, c', on', hseen (fun h => absurd h h0), hxi, hmc9, hnl9, k8.trans kz2, by show n7 ≤ n8 + 1 + 1; omega, bx9, .inr ⟨hKe, zk, rfl, hzk0, hzk9⟩, hap, f0, f5, f7, f8, f71, f72, rfl, rfl⟩
   cases b with
   | true =>
    simp only [SS, qx5, vun, simprocAttr, -Int.reduceOfNat, -List.reduceReplicate, h0, decide_true, ff_18]
    repeat (first | refine qqm rfl ?_ | ((first | refine qqr ?_ | refine qqt ?_); simp only [SS, qx5, vun, simprocAttr, -Int.reduceOfNat, -List.reduceReplicate, f73, hwr, ff_18]))
    refine ih2 (K.length - (q + 1)) (by omega) _ ?_
    exact ⟨q + 1, todo', par', hql, c', on', hseen (fun _ => hb.1 rfl), hxi, hmc9, hnl9, k8.trans kz2, by show n7 ≤ n8 + 1 + 1; omega, bx9, .inr ⟨hKe, zk, rfl, hzk0, hzk9⟩, hap, f0, f5, f7, f8, f71, f72, rfl, rfl⟩
   | false =>
    have hzn : z ∉ todo' := fun h => by have := hb.2 h; cases this
    have hrz : rd z ≠ 0 := by rcases s4 with s4 | s4 <;> omega
    obtain ⟨par'', hpe⟩ : ∃ par'' : Nd → Nd × Int, par'' = fun a => if a = z then (x, (q : Int)) else par' a := ⟨_, rfl⟩
    have hp1 : par'' z = (x, (q : Int)) := by rw [hpe]; simp
    have hp2 : ∀ a, a ∈ todo' → par'' a = par' a := fun a ha => by
     rw [hpe]
     exact if_neg fun e => hzn (by rw [← e]; exact ha)
    have hput := gkN.vput (val := fun a => stV (par' a)) (val' := fun a => stV (par'' a)) (k := z) hsz hmc9.sm hzn und_ms hmc9.m (fun a ha => by rw [hp2 a ha])
    simp only [hp1] at hput
    simp only [SS, qx5, vun, simprocAttr, -Int.reduceOfNat, -List.reduceReplicate, h0, decide_true, ff_18]
    repeat refine qqn rfl ?_
    refine qqm rfl ?_
    repeat refine qqn rfl ?_
    have spA : AM.splice [Value.int IntKind.i64 (Int.ofNat 0), Value.int IntKind.i64 (Int.ofNat 0), Value.int IntKind.i64 (Int.ofNat 0), Value.int IntKind.i64 (Int.ofNat 0)] 0 (ndC x) = stC (x, 0) := rfl
    have spB : (stC (x, 0)).set 3 (Value.int .i64 (q : Int)) = stC (x, (q : Int)) := rfl
    have hput2 : amapset Try.prog 75 H9 (.map (some n1)) (.agg (ndC z).toArray) (.agg (stC (x, (q : Int))).toArray) = some { v := undef, wr := some (n1, .map (vE ndV (fun a => stV (par'' a)) (todo' ++ [z]) 0) (todo' ++ [z]).length 67) } := hput
    have kM := (k8.trans kz2).set (x := n1) (.map (vE ndV (fun a => stV (par'' a)) (todo' ++ [z]) 0) (todo' ++ [z]).length 67) (by omega) (by omega)
    have hM := hset_at H9 n1 (.map (vE ndV (fun a => stV (par'' a)) (todo' ++ [z]) 0) (todo' ++ [z]).length 67)
    have bxM := (hset_ne H9 n1 (.map (vE ndV (fun a => stV (par'' a)) (todo' ++ [z]) 0) (todo' ++ [z]).length 67) (x := n4) (by omega)).trans bx9
    have bzM := (hset_ne H9 n1 (.map (vE ndV (fun a => stV (par'' a)) (todo' ++ [z]) 0) (todo' ++ [z]).length 67) (x := n8) (by omega)).trans bz
    have hzkM := (hset_ne H9 n1 (.map (vE ndV (fun a => stV (par'' a)) (todo' ++ [z]) 0) (todo' ++ [z]).length 67) (x := zk) (by omega)).trans hzk9
    (refine qqr ?_; simp only [SS, qx5, vun, simprocAttr, -Int.reduceOfNat, -List.reduceReplicate, f5, f8, bz, bx9, ndC_all, ndC_len, ndC_one, ndC_cells, aop_mapset, spA, spB, st_len, st_cells, hput2, not_true_eq_false, ff_18])
    rcases hnl9 with ⟨h1, _⟩ | ⟨hte, zt', f6, hzt0', hzt'⟩
    ·rw [h1] at hxi; cases hxi
    have hztM := (hset_ne H9 n1 (.map (vE ndV (fun a => stV (par'' a)) (todo' ++ [z]) 0) (todo' ++ [z]).length 67) (x := zt') (by omega)).trans hzt'
    generalize hset H9 n1 (.map (vE ndV (fun a => stV (par'' a)) (todo' ++ [z]) 0) (todo' ++ [z]).length 67) = HM at *
    have hwM := kM.wf hw
    have hztn' := live_m hwM (z := zt') (by rw [hztM]; intro e; cases e)
    have hlz : todo'.length * 3 ≤ (todo'.flatMap ndC).length := by rw [ndcs_len]; omega
    have htz : (todo'.flatMap ndC).take (todo'.length * 3) = todo'.flatMap ndC := List.take_of_length_le (by rw [ndcs_len]; omega)
    have q3 : ∀ (H : Heap) ob, hset H (n8 + 1 + 1) ob zt' = H zt' := fun H ob => hset_ne _ _ _ (by omega)
    have hct : [n8 + 1 + 1].contains zt' = false := by simp; omega
    have hbl : todo'.length + 1 ≤ bigN := by unfold bigN; omega
    obtain ⟨hap1, hap2⟩ := hap _ _ _ f6
    have hap3 := hap2 zk rfl
    have hkp : ∀ o1 o2 o3 z, z ≠ zt' → z < n8 + 1 + 1 → hset (hset (hset HM (n8 + 1 + 1) o1) zt' o2) (n8 + 1 + 1 + 1) o3 z = HM z := fun o1 o2 o3 z h1 h2 => (hset_ne _ _ _ (by omega)).trans ((hset_ne _ _ _ h1).trans (hset_ne _ _ _ (by omega)))
    have hzkn := live_m hwM (z := zk) (by rw [hzkM]; intro e; cases e)
    have nd_t : ∀ x, (ndC x).take 3 = ndC x := fun _ => rfl
    repeat refine qqn rfl ?_
    (refine qqr ?_; simp only [SS, qx5, vun, simprocAttr, -Int.reduceOfNat, -List.reduceReplicate, f6, bzM, nd_t, ndC_all, ndC_len, ndC_one, ndC_cells, sp3, tk3, tk4, hztM, hlz, htz, q3, hct, hbl, hset_at, hwr, f73, List.drop_zero, Nat.zero_add, ff_18])
    repeat refine qqn rfl ?_
    (refine qqr ?_; simp only [SS, qx5, vun, simprocAttr, -Int.reduceOfNat, -List.reduceReplicate, f73, hwr, ff_18])
    repeat refine qqn rfl ?_
    have c'' := c'.push hxi hL (by rw [hK]; exact hzg) h0 hzn hrz hzk8 hp1 hp2
    refine ih2 (K.length - (q + 1)) (by omega) _ ?_
    refine ⟨q + 1, todo' ++ [z], par'', hql, c'', ⟨fun j a hj ha => ?_⟩, fun p a hp ha h0 => ?_, ?_, ⟨?_, ?_⟩, .inr ⟨by simp, n8 + 1 + 1 + 1, ?_, by omega, ?_⟩, ?_, ?_, ?_, .inr ⟨hKe, zk, rfl, hzk0, ?_⟩, ?_, f0, f5, f7, f8, f71, f72, rfl, rfl⟩
    ·by_cases hji : j < todo'.length
     ·rw [List.getElem?_append_left hji] at ha
      obtain ⟨y2, e1, e2⟩ := on'.one j a hj ha
      exact ⟨y2, e1, fun z hz h0 => List.mem_append_left _ (e2 z hz h0)⟩
     ·have := (List.getElem?_eq_some_iff.1 hxi).1
      omega
    ·by_cases hpq : p = q
     ·subst hpq
      rw [hzg] at ha
      cases ha
      simp
     ·exact List.mem_append_left _ (hpre p a (by omega) ha h0)
    ·rw [List.getElem?_append_left (List.getElem?_eq_some_iff.1 hxi).1]; exact hxi
    ·exact (hkp _ _ _ _ (by omega) (by omega)).trans hM
    ·intro a ha
     rcases List.mem_append.1 ha with ha | ha
     ·exact hmc9.sm a ha
     ·have : a = z := by simpa using ha
      rw [this]; exact hsz
    ·simp only [packed, fset_apply, Nat.reduceEqDiff, ↓reduceIte, List.getD_cons_zero, List.getD_cons_succ, List.length_append, List.length_singleton, ff_18]
    ·rw [List.flatMap_append]
     refine (hset_at _ _ _).trans ?_
     simp
    ·exact ((kM.trans (Kp.new _ _ _)).set (x := zt') .dead (by omega) (by omega)).trans (Kp.new _ _ _)
    ·show n7 ≤ n8 + 1 + 1 + 1 + 1
     omega
    ·exact (hkp _ _ _ _ (by omega) (by omega)).trans bxM
    ·exact (hkp _ _ _ _ (by omega) (by omega)).trans hzkM
    ·intro z3 l c3 e
     have e2 : (Value.slice (some ⟨n8 + 1 + 1 + 1, 0, none⟩) (todo'.length + 1) (todo'.length + 1)) = .slice (some ⟨z3, 0, none⟩) l c3 := e
     have hz3 : n8 + 1 + 1 + 1 = z3 := by injection e2 with e3; injection e3 with e4; injection e4
     refine ⟨by omega, fun z' e3 => ?_⟩
     have : zk = z' := by injection e3 with e4; injection e4
     omega
end
theorem faeq_nn : aeqNil Try.prog 40 (.pointer none) (.pointer none) = none := by kernel_rfl
theorem fanan_nn : anan Try.prog .eql 40 (.pointer none) (.pointer none) = none := by kernel_rfl
theorem fnil_nil {f : Fr} {n : Nat} {H : Heap} {d : Option Nat} {x : Operand} {u ty : TypeId} {p : String} {af : Array Edge} {gd : Option (Nat × Bool)} (hx : evalA f x = .pointer none) :
  aop Try.prog (evalA f) n H ⟨d, .binOp .eql 40 x (.const (.pointer none)) u, ty, p, af, gd⟩ = some { v := .bool true } := by
 have hc : evalA f (.const (.pointer none)) = .pointer none := rfl
 unfold aop
 simp only [hx, hc, faeq_nn, fanan_nn]
 have ho : opFlat (evalA f) ⟨d, .binOp .eql 40 x (.const (.pointer none)) u, ty, p, af, gd⟩ = true := by
  simp [opFlat, Op.operands, hx, hc, flat, flat1]
 unfold aflat
 rw [if_pos ho]
 simp only [execOp, resolve, hx, hc]
 rfl
theorem tn_none {g : Gram} {w : List Int} {rd : Nd → Nat} (ok : FoOK g w rd) (hg : InG g) (h : rd (root w) = 0) : ∀ d, ¬ Dv g [0] d w := fun d hd =>
 absurd h (ok.has hg (x := root w) (Int.le_refl 0) (Nat.zero_le _) (Nat.le_refl _) (d := d) (by show Dv g [0] d (sub w 0 w.length); rw [sub_all]; exact hd))
theorem tn_pl {g : Gram} {w : List Int} {rd : Nd → Nat} (ok : FoOK g w rd) (hg : InG g) (h : rd (root w) ≠ 0) : Dv g [0] (pl g w rd (root w)) w := by
 have hd := ok.pl_dv hg _ (root w) (Nat.le_refl _) h
 have e : sub w (root w).2.1 (root w).2.2 = w := sub_all w
 rw [e] at hd; exact hd
set_option maxHeartbeats 16000000 in
theorem trees_gives {pt pv pr q : Option Addr} {g : Gram} {w : List Int} {n0 : Nat} {H0 : Heap} (hw0 : WF n0 H0) (hr : RR H0 pr g.rules) (hq : RS (Value.int .i64) H0 q w) (sg : Sgm g) (hwl : w.length ≤ maxL) :
  GivesD Try.prog 11 [.agg (gcells pt pv pr g).toArray, .slice q w.length w.length] n0 H0 fun v _ _ => ∃ t : Nat, v = .int .i64 (t : Nat) ∧ (10 < w.length → t = 0) ∧ (w.length ≤ 10 → Tn g w t) := by
 refine GivesD.of orders ok11 (Nat.le_of_ble_eq_true rfl) ?_
 repeat refine qdn rfl ?_
 (refine qdr ?_; simp only [SS, qx16, y3, vun, simprocAttr, -Int.reduceOfNat, -List.reduceReplicate, abox, box_cells, box_one, ff_11])
 have k1 := Kp.new n0 H0 (.cells (gcells pt pv pr g) 25 true)
 have hb1 := hset_at H0 n0 (.cells (gcells pt pv pr g) 25 true)
 generalize hset H0 n0 (.cells (gcells pt pv pr g) 25 true) = H1 at *
 have hw1 := k1.wf hw0
 repeat (first | refine qdm rfl ?_ | ((first | refine qdr ?_ | refine qdt ?_); simp only [SS, qx16, y3, vun, simprocAttr, -Int.reduceOfNat, -List.reduceReplicate, hb1, gc_all, gc_len, ff_11]))
 refine AtCallY.byD (new_gives hw1 (hr.mono hw0 k1) (hq.mono hw0 k1) sg hwl) ?_
 rintro v n2 H2 k2 hv
 have hw2 := k2.wf hw1
 have hle1 := k1.le
 have hle2 := k2.le
 rcases hv with ⟨hl, rfl⟩ | ⟨hl, fo, m, pw, ks, rd, rfl, md⟩
 ·simp only [SS, qx16, y3, vun, simprocAttr, -Int.reduceOfNat, -List.reduceReplicate, ff_11]
  repeat (first | refine qdm rfl ?_ | ((first | refine qdr ?_ | refine qdt ?_); simp only [SS, qx16, y3, vun, simprocAttr, -Int.reduceOfNat, -List.reduceReplicate, ff_11]))
  rw [fnil_nil rfl]
  simp only [SS, qx16, y3, vun, simprocAttr, -Int.reduceOfNat, -List.reduceReplicate, ff_11]
  repeat (first | refine qdm rfl ?_ | ((first | refine qdr ?_ | refine qdt ?_); simp only [SS, qx16, y3, vun, simprocAttr, -Int.reduceOfNat, -List.reduceReplicate, ff_11]))
  (first | refine WKD.retNil ⟨Or.inr rfl, _, rfl, ?_, ?_⟩ | refine WKD.skipNil ⟨Or.inl rfl, _, rfl, ?_, ?_⟩)
  ·intro z hz
   exact (k2.keep z (by omega)).trans (k1.keep z hz)
  ·simp only [packed, fset_apply, Nat.reduceEqDiff, ↓reduceIte, List.getD_cons_zero, List.getD_cons_succ, ff_11]
   exact ⟨0, rfl, fun _ => rfl, fun h => by omega⟩
 ·simp only [SS, qx16, y3, vun, simprocAttr, -Int.reduceOfNat, -List.reduceReplicate, ff_11]
  repeat (first | refine qdm rfl ?_ | ((first | refine qdr ?_ | refine qdt ?_); simp only [SS, qx16, y3, vun, simprocAttr, -Int.reduceOfNat, -List.reduceReplicate, ff_11]))
  try simp only [SS, qx16, y3, vun, simprocAttr, -Int.reduceOfNat, -List.reduceReplicate, ff_11]
  repeat (first | refine qdm rfl ?_ | ((first | refine qdr ?_ | refine qdt ?_); simp only [SS, qx16, y3, vun, simprocAttr, -Int.reduceOfNat, -List.reduceReplicate, ff_11]))
  refine AtCallY.by (one_gives hw2 md hl sg (Kp.refl _ _)) ?_
  rintro v n3 H3 k3 hv
  have hw3 := k3.wf hw2
  have hle3 := k3.le
  rcases hv with ⟨h0, rfl⟩ | ⟨h0, u, rfl, hu⟩
  ·simp only [SS, qx16, y3, vun, simprocAttr, -Int.reduceOfNat, -List.reduceReplicate, ff_11]
   repeat (first | refine qdm rfl ?_ | ((first | refine qdr ?_ | refine qdt ?_); simp only [SS, qx16, y3, vun, simprocAttr, -Int.reduceOfNat, -List.reduceReplicate, ff_11]))
   (first | refine WKD.retNil ⟨Or.inr rfl, _, rfl, ?_, ?_⟩ | refine WKD.skipNil ⟨Or.inl rfl, _, rfl, ?_, ?_⟩)
   ·intro z hz
    exact (k3.keep z (by omega)).trans ((k2.keep z (by omega)).trans (k1.keep z hz))
   ·simp only [packed, fset_apply, Nat.reduceEqDiff, ↓reduceIte, List.getD_cons_zero, List.getD_cons_succ, ff_11]
    exact ⟨0, rfl, fun _ => rfl, fun _ => .inl ⟨rfl, tn_none md.ok sg.ing h0⟩⟩
  ·have hpl := tn_pl md.ok sg.ing h0
   simp only [SS, qx16, y3, vun, simprocAttr, -Int.reduceOfNat, -List.reduceReplicate, ff_11]
   repeat (first | refine qdm rfl ?_ | ((first | refine qdr ?_ | refine qdt ?_); simp only [SS, qx16, y3, vun, simprocAttr, -Int.reduceOfNat, -List.reduceReplicate, ff_11]))
   refine AtCallY.by (two_gives hw2 md hl sg k3) ?_
   rintro v n4 H4 k4 hv
   have hkeep : ∀ z, z < n0 → H4 z = H0 z := fun z hz => (k4.keep z (by omega)).trans ((k3.keep z (by omega)).trans ((k2.keep z (by omega)).trans (k1.keep z hz)))
   rcases hv with ⟨a, b, oa, ob, rfl, hne, ha, hb, _, _⟩ | ⟨rfl, huq⟩
   ·simp only [SS, qx16, y3, vun, simprocAttr, -Int.reduceOfNat, -List.reduceReplicate, ff_11]
    repeat (first | refine qdm rfl ?_ | ((first | refine qdr ?_ | refine qdt ?_); simp only [SS, qx16, y3, vun, simprocAttr, -Int.reduceOfNat, -List.reduceReplicate, ff_11]))
    (first | refine WKD.retNil ⟨Or.inr rfl, _, rfl, ?_, ?_⟩ | refine WKD.skipNil ⟨Or.inl rfl, _, rfl, ?_, ?_⟩)
    ·exact hkeep
    ·simp only [packed, fset_apply, Nat.reduceEqDiff, ↓reduceIte, List.getD_cons_zero, List.getD_cons_succ, ff_11]
     exact ⟨2, rfl, fun h => by omega, fun _ => .inr (.inr ⟨rfl, oa, ob, hne, ha, hb⟩)⟩
   ·simp only [SS, qx16, y3, vun, simprocAttr, -Int.reduceOfNat, -List.reduceReplicate, ff_11]
    repeat (first | refine qdm rfl ?_ | ((first | refine qdr ?_ | refine qdt ?_); simp only [SS, qx16, y3, vun, simprocAttr, -Int.reduceOfNat, -List.reduceReplicate, ff_11]))
    (first | refine WKD.retNil ⟨Or.inr rfl, _, rfl, ?_, ?_⟩ | refine WKD.skipNil ⟨Or.inl rfl, _, rfl, ?_, ?_⟩)
    ·exact hkeep
    ·simp only [packed, fset_apply, Nat.reduceEqDiff, ↓reduceIte, List.getD_cons_zero, List.getD_cons_succ, ff_11]
     exact ⟨1, rfl, fun h => by omega, fun _ => .inr (.inl ⟨rfl, _, hpl, fun d' h => huq _ _ h hpl⟩)⟩
end Go.Proofs.Ytemkglelfeidhaa
