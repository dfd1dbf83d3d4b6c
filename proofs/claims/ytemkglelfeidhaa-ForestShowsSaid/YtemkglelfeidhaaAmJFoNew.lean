/- A part of a proof. Its conditions: none. -/
import Derived.Test.YtemkglelfeidhaaAmJFoWays
import Derived.Test.YtemkglelfeidhaaAmC
import Derived.Test.YtemkglelfeidhaaAmJChRep
import Derived.Test.YtemkglelfeidhaaAmD
set_option linter.all false
namespace Go.Proofs.Ytemkglelfeidhaa
open Go.AM Go.AM.Fo Go.RowKit
set_option maxRecDepth 100000
def prevE (a : Nat) (cs : List Nat) (i : Nat) : Nat := (a :: cs).getD i 0
theorem kids_at : ∀ {ss : List Int} {a : Nat} {cs : List Nat} (_ : cs.length = ss.length) {i : Nat} (hi : i < ss.length), (kidsL ss a cs)[i]? = some (kid1 ss[i] (prevE a cs i) (cs.getD i 0))
 | s :: ss, a, c :: cs, h, 0, hi => rfl
 | s :: ss, a, c :: cs, h, i + 1, hi => kids_at (ss := ss) (a := c) (cs := cs) (by simpa using h) (i := i) (by simpa using hi)
theorem kids_take {ss : List Int} {a : Nat} {cs : List Nat} (h : cs.length = ss.length) {i : Nat} (hi : i < ss.length) : (kidsL ss a cs).take (i + 1) = (kidsL ss a cs).take i ++ [kid1 ss[i] (prevE a cs i) (cs.getD i 0)] := by
 have h1 := kids_at (a := a) h hi
 obtain ⟨h2, h3⟩ := List.getElem?_eq_some_iff.1 h1
 rw [List.take_succ_eq_append_getElem h2, h3]
theorem NL.weak {H : Heap} {N N' : Nat} {v : Value} {l : List Nd} (h : NL H N v l) (hn : N' ≤ N) : NL H N' v l := by
 rcases h with h | ⟨h1, z, h2, h3, h4⟩
 ·exact .inl h
 ·exact .inr ⟨h1, z, h2, by omega, h4⟩
set_option maxHeartbeats 16000000 in
theorem kids_gives {fo m : Nat} {pt pv pr pw : Option Addr} {g : Gram} {w : List Int} {n : Nat} {H : Heap} (hw : WF n H) (hf : FO H fo m pt pv pr pw g w) (sg : Sgm g) {x : Nd} {y : Fo.Way} {p : Option Addr} (hr : y.1 < g.rules.length) (hyl : y.2.length = (rgt g y.1).length)
  (hp : RS (fun c : Nat => Value.int .i64 (c : Int)) H p y.2) :
  Gives Try.prog 44 [.pointer (some ⟨fo, 0, none⟩), ndV x, .agg (wyC p y).toArray] n H fun v n' H' => NL H' n v (kidsL (rgt g y.1) x.2.1 y.2) := by
 refine Gives.of orders ok44 (Nat.le_of_ble_eq_true rfl) ?_
 have hfo := hf.f
 obtain ⟨xr, kr, xs, xty, xown, pr', rfl, hxr, c0, c1, c2, hpr⟩ := hf.r.at hr
 have k2 := (Kp.new n H (.cells (ndC x) 67 true)).trans (Kp.new (n + 1) (hset H n (.cells (ndC x) 67 true)) (.cells (wyC p y) 82 true))
 have b1 : hset (hset H n (.cells (ndC x) 67 true)) (n + 1) (.cells (wyC p y) 82 true) n = .cells (ndC x) 67 true := (hset_ne _ _ _ (by omega)).trans (hset_at _ _ _)
 have b2 := hset_at (hset H n (.cells (ndC x) 67 true)) (n + 1) (.cells (wyC p y) 82 true)
 repeat refine qqn rfl ?_
 (refine qqr ?_; simp only [SS, qx34, vun, simprocAttr, -Int.reduceOfNat, -List.reduceReplicate, abox, ndC_cells, ndC_one, wy_cells, wy_one, ndV, ff_44])
 generalize hset (hset H n (.cells (ndC x) 67 true)) (n + 1) (.cells (wyC p y) 82 true) = H2 at *
 have hw2 := k2.wf hw
 have hfo2 := (k2.keep fo (live_m hw (by rw [hfo]; intro e; cases e))).trans hfo
 have hxr2 := (k2.keep xr (live_m hw (by rw [hxr]; intro e; cases e))).trans hxr
 have hpr2 := hpr.mono hw k2
 have hrl : ((y.1 : Int) < (g.rules.length : Int)) = True := by simp only [eq_iff_iff, iff_true]; omega
 have h0r : (0 : Int) ≤ (y.1 : Int) := Int.natCast_nonneg y.1
 have hrm : g.rules[y.1] ∈ g.rules := List.getElem_mem hr
 have hrg := rgF_eq hr
 have hr8 := sg.r8 _ hrm
 rw [hrg] at hyl
 rw [hrg]
 have hsy := fun s => sg.sym (s := s) hrm
 generalize hgr : g.rules[y.1] = gr at *
 repeat (first | refine qqn rfl ?_ | ((first | refine qqr ?_ | refine qqt ?_); simp only [SS, qx34, vun, simprocAttr, -Int.reduceOfNat, -List.reduceReplicate, b1, ndC_1, hfo2, fo_2, aop_nc, tnc, b2, wy_0, hrl, hr, h0r, hxr2, c1, Int.toNat_natCast, ff_44]) | (refine qqj ?_ ?_; focus (simp only [qqs, Nat.reduceEqDiff, ↓reduceIte, b1, ndC_1, hfo2, fo_2, aop_nc, tnc, b2, wy_0, hrl, hr, h0r, hxr2, c1, Int.toNat_natCast, ff_44]; done)) | (refine qqk ?_ ?_; focus (simp only [qqs, Nat.reduceEqDiff, ↓reduceIte, b1, ndC_1, hfo2, fo_2, aop_nc, tnc, b2, wy_0, hrl, hr, h0r, hxr2, c1, Int.toNat_natCast, ff_44]; done)))
 refine WK.loop (fun kk s => ∃ i : Nat, i ≤ gr.right.length ∧ Kp (n + 1 + 1) H2 s.n s.H ∧ NL s.H (n + 1 + 1) (s.f 7) ((kidsL gr.right x.2.1 y.2).take i) ∧
  s.f 4 = .pointer (some ⟨n, 0, none⟩) ∧ s.f 5 = .pointer (some ⟨n + 1, 0, none⟩) ∧ s.f 8 = .int .i64 (prevE x.2.1 y.2 i : Nat) ∧ s.f 22 = .slice pr' gr.right.length gr.right.length ∧ s.f 23 = .int .i64 (gr.right.length : Nat) ∧ s.f 24 = .int .i64 (i : Nat) ∧ kk = gr.right.length - i) gr.right.length ?_ ?_
 ·exact ⟨0, Nat.zero_le _, Kp.refl _ _, .inl ⟨rfl, rfl⟩, rfl, rfl, rfl, rfl, rfl, rfl, rfl⟩
 rintro kk ⟨f, n3, H3⟩ ⟨i, hi, k3, hnl, f4, f5, f8, f22, f23, f24, rfl⟩ ih
 simp only at k3 hnl f4 f5 f8 f22 f23 f24 ih
 have hw3 := k3.wf hw2
 have hle3 := k3.le
 have hkl := kids_len gr.right x.2.1 y.2 hyl
 by_cases hil : i < gr.right.length
 case neg =>
  have hil' : ((i : Int) < (gr.right.length : Int)) = False := by simp only [eq_iff_iff, iff_false]; omega
  obtain rfl : i = gr.right.length := by omega
  rw [List.take_of_length_le (by omega)] at hnl
  repeat (first | refine qqn rfl ?_ | ((first | refine qqr ?_ | refine qqt ?_); simp only [SS, qx34, vun, simprocAttr, -Int.reduceOfNat, -List.reduceReplicate, f23, f24, hil', ff_44]) | (refine qqj ?_ ?_; focus (simp only [qqs, Nat.reduceEqDiff, ↓reduceIte, f23, f24, hil', ff_44]; done)) | (refine qqk ?_ ?_; focus (simp only [qqs, Nat.reduceEqDiff, ↓reduceIte, f23, f24, hil', ff_44]; done)))
  (first | refine WK.retNil ⟨Or.inr rfl, _, rfl, ?_, ?_⟩ | refine WK.skipNil ⟨Or.inl rfl, _, rfl, ?_, ?_⟩)
  ·exact fun z hz => (k3.keep z (by omega)).trans (k2.keep z hz)
  ·simp only [packed, fset_apply, Nat.reduceEqDiff, ↓reduceIte, List.getD_cons_zero, List.getD_cons_succ, ff_44]
   exact hnl.weak (by omega)
 have hil' : ((i : Int) < (gr.right.length : Int)) = True := by simp only [eq_iff_iff, iff_true]; omega
 have h0i : (0 : Int) ≤ (i : Int) := Int.natCast_nonneg i
 have b13 := (k3.keep n (by omega)).trans b1
 have b23 := (k3.keep (n + 1) (by omega)).trans b2
 obtain ⟨xq, kq, qs, qty, qown, rfl, hxq, eq⟩ := (hpr2.mono hw2 k3).at hil
 have hyi : i < y.2.length := by omega
 have hyi' : ((i : Int) < (y.2.length : Int)) = True := by simp only [eq_iff_iff, iff_true]; omega
 rcases hp with ⟨_, h⟩ | ⟨xp, kp, ps, pty, pown, rfl, hxp0, hfit, hat⟩
 ·rw [h] at hyi; simp at hyi
 have hxn := live_m hw (z := xp) (by rw [hxp0]; intro e; cases e)
 have hxp := (k3.keep xp (by omega)).trans ((k2.keep xp hxn).trans hxp0)
 have ec := hat i _ (List.getElem?_eq_getElem hyi)
 have hcd : y.2.getD i 0 = y.2[i] := by simp [hyi]
 have hwr := wrap_up hil (show gr.right.length ≤ maxL by unfold maxL; omega)
 have htk := kids_take (a := x.2.1) hyl hil
 have hpv : prevE x.2.1 y.2 (i + 1) = y.2[i] := by unfold prevE; rw [List.getD_cons_succ, hcd]
 rw [hcd] at htk
 generalize hK : (kidsL gr.right x.2.1 y.2).take i = ls at *
 have hll : ls.length = i := by rw [← hK, List.length_take]; omega
 generalize hci : y.2[i] = c at *
 generalize hsi : gr.right[i] = s at *
 generalize prevE x.2.1 y.2 i = a at *
 repeat (first | refine qqn rfl ?_ | ((first | refine qqr ?_ | refine qqt ?_); simp only [SS, qx34, vun, simprocAttr, -Int.reduceOfNat, -List.reduceReplicate, f22, f23, f24, hil', hil, h0i, hxq, eq, Int.toNat_natCast, ff_44]) | (refine qqj ?_ ?_; focus (simp only [qqs, Nat.reduceEqDiff, ↓reduceIte, f22, f23, f24, hil', hil, h0i, hxq, eq, Int.toNat_natCast, ff_44]; done)) | (refine qqk ?_ ?_; focus (simp only [qqs, Nat.reduceEqDiff, ↓reduceIte, f22, f23, f24, hil', hil, h0i, hxq, eq, Int.toNat_natCast, ff_44]; done)))
 refine AtCall.by (isVar_gives _ _ _) ?_
 rintro v n' H' _ ⟨rfl, rfl, rfl⟩
 have q1 : ∀ (H : Heap) ob, hset H n' ob xp = H xp := fun H ob => hset_ne _ _ _ (by omega)
 have q2 : ∀ (H : Heap) ob, hset H n' ob (n + 1) = H (n + 1) := fun H ob => hset_ne _ _ _ (by omega)
 have q4 : ∀ (H : Heap) ob, hset H (n' + 1) ob xp = H xp := fun H ob => hset_ne _ _ _ (by omega)
 have q5 : ∀ (H : Heap) ob, hset H (n' + 1) ob (n + 1) = H (n + 1) := fun H ob => hset_ne _ _ _ (by omega)
 have hb1 : (bigN < 1) = False := by simp [bigN]
 have h10 : ((1 : Nat) = 0) = False := by simp
 have hbl : ls.length + 1 ≤ bigN := by unfold bigN; omega
 obtain ⟨s', hs'⟩ : ∃ s' : Int, (if 0 ≤ s then s else -1) = s' := ⟨_, rfl⟩
 have hkid : kid1 s a c = (s', a, c) := by unfold kid1; rw [hs']
 rw [hkid] at htk
 simp only [SS, qx34, vun, simprocAttr, -Int.reduceOfNat, -List.reduceReplicate, ff_44]
 repeat refine qqn rfl ?_
 refine WK.cut (fun t => t.n = n' ∧ t.H = H' ∧ t.f 4 = .pointer (some ⟨n, 0, none⟩) ∧ t.f 5 = .pointer (some ⟨n + 1, 0, none⟩) ∧ t.f 7 = f 7 ∧ t.f 8 = .int .i64 (a : Nat) ∧ t.f 9 = .int .i64 (i : Nat) ∧ t.f 10 = .int .i64 s' ∧ t.f 22 = .slice (some ⟨xq, kq, none⟩) gr.right.length gr.right.length ∧ t.f 23 = .int .i64 (gr.right.length : Nat) ∧ t.f 24 = .int .i64 (i : Nat)) ?_ ?_
 ·by_cases hs : 0 ≤ s
  ·rw [if_pos hs] at hs'
   subst hs'
   first | (refine qqj ?_ ?_; focus (simp only [qqs, Nat.reduceEqDiff, ↓reduceIte, hs, Bool.not_true]; done)) | (refine qqk ?_ ?_; focus (simp only [qqs, Nat.reduceEqDiff, ↓reduceIte, hs, Bool.not_true]; done))
   exact WK.skipNil ⟨rfl, rfl, rfl, f4, f5, rfl, f8, rfl, rfl, f22, f23, f24⟩
  ·rw [if_neg hs] at hs'
   subst hs'
   first | (refine qqj ?_ ?_; focus (simp only [qqs, Nat.reduceEqDiff, ↓reduceIte, hs, Bool.not_false]; done)) | (refine qqk ?_ ?_; focus (simp only [qqs, Nat.reduceEqDiff, ↓reduceIte, hs, Bool.not_false]; done))
   repeat (first | refine qqn rfl ?_ | ((first | refine qqr ?_ | refine qqt ?_); simp only [SS, qx34, vun, simprocAttr, -Int.reduceOfNat, -List.reduceReplicate, ff_44]) | (refine qqj ?_ ?_; focus (simp only [qqs, Nat.reduceEqDiff, ↓reduceIte, ff_44]; done)) | (refine qqk ?_ ?_; focus (simp only [qqs, Nat.reduceEqDiff, ↓reduceIte, ff_44]; done)))
   exact WK.skipNil ⟨rfl, rfl, rfl, f4, f5, rfl, f8, rfl, rfl, f22, f23, f24⟩
 clear f4 f5 f8 f22 f23 f24
 rintro ⟨f', n4, H4⟩ ⟨en, eH, f4, f5, f7, f8, f9, f10, f22, f23, f24⟩
 simp only at en eH f4 f5 f7 f8 f9 f10 f22 f23 f24 ih ⊢
 rw [eH, en]
 clear en eH
 have e6 : [Value.int .i64 s', .int .i64 (a : Nat), .int .i64 (c : Nat)] = ndC (s', a, c) := rfl
 repeat refine qqn rfl ?_
 rcases hnl with ⟨hl0, h7⟩ | ⟨hl0, z, h7, hz0, hz⟩
 ·rw [h7] at f7
  repeat (first | refine qqn rfl ?_ | ((first | refine qqr ?_ | refine qqt ?_); simp only [SS, qx34, vun, simprocAttr, -Int.reduceOfNat, -List.reduceReplicate, f5, f7, f8, f9, f10, f24, b23, wy_1, hyi, hyi', h0i, hxp, ec, hwr, Int.toNat_natCast, hb1, h10, q1, q2, q4, q5, tk3, tk4, ff_44]) | (refine qqj ?_ ?_; focus (simp only [qqs, Nat.reduceEqDiff, ↓reduceIte, f5, f7, f8, f9, f10, f24, b23, wy_1, hyi, hyi', h0i, hxp, ec, hwr, Int.toNat_natCast, hb1, h10, q1, q2, q4, q5, tk3, tk4, ff_44]; done)) | (refine qqk ?_ ?_; focus (simp only [qqs, Nat.reduceEqDiff, ↓reduceIte, f5, f7, f8, f9, f10, f24, b23, wy_1, hyi, hyi', h0i, hxp, ec, hwr, Int.toNat_natCast, hb1, h10, q1, q2, q4, q5, tk3, tk4, ff_44]; done)))
  refine ih (gr.right.length - (i + 1)) (by omega) _ ?_
  refine ⟨i + 1, hil, k3.trans ((Kp.new _ _ _).trans (Kp.new _ _ _)), ?_, f4, f5, ?_, f22, f23, rfl, rfl⟩
  ·simp only [packed, fset_apply, Nat.reduceEqDiff, ↓reduceIte, List.getD_cons_zero, List.getD_cons_succ, ff_44]
   refine .inr ⟨by rw [htk]; simp, n' + 1, ?_, by omega, ?_⟩
   ·rw [htk, hl0]; rfl
   ·rw [htk, hl0]; exact hset_at _ _ _
  ·simp only [packed, fset_apply, Nat.reduceEqDiff, ↓reduceIte, List.getD_cons_zero, List.getD_cons_succ, hpv, ff_44]
 ·rw [h7] at f7
  have hlz : ls.length * 3 ≤ (ls.flatMap ndC).length := by rw [ndcs_len]; omega
  have htz : (ls.flatMap ndC).take (ls.length * 3) = ls.flatMap ndC := List.take_of_length_le (by rw [ndcs_len]; omega)
  have hzn := live_m hw3 (z := z) (by rw [hz]; intro e; cases e)
  have q3 : ∀ (H : Heap) ob, hset H n' ob z = H z := fun H ob => hset_ne _ _ _ (by omega)
  have q6 : ∀ (H : Heap) ob, hset H z ob xp = H xp := fun H ob => hset_ne _ _ _ (by omega)
  have q7 : ∀ (H : Heap) ob, hset H z ob (n + 1) = H (n + 1) := fun H ob => hset_ne _ _ _ (by omega)
  have hct : [n'].contains z = false := by simp; omega
  repeat (first | refine qqn rfl ?_ | ((first | refine qqr ?_ | refine qqt ?_); simp only [SS, qx34, vun, simprocAttr, -Int.reduceOfNat, -List.reduceReplicate, f5, f7, f8, f9, f10, f24, b23, wy_1, hyi, hyi', h0i, hxp, ec, hwr, Int.toNat_natCast, hb1, h10, q1, q2, q4, q5, q6, q7, tk3, tk4, q3, hz, hlz, htz, hct, hbl, List.drop_zero, Nat.zero_add, hset_at, ff_44]) | (refine qqj ?_ ?_; focus (simp only [qqs, Nat.reduceEqDiff, ↓reduceIte, f5, f7, f8, f9, f10, f24, b23, wy_1, hyi, hyi', h0i, hxp, ec, hwr, Int.toNat_natCast, hb1, h10, q1, q2, q4, q5, q6, q7, tk3, tk4, q3, hz, hlz, htz, hct, hbl, List.drop_zero, Nat.zero_add, hset_at, ff_44]; done)) | (refine qqk ?_ ?_; focus (simp only [qqs, Nat.reduceEqDiff, ↓reduceIte, f5, f7, f8, f9, f10, f24, b23, wy_1, hyi, hyi', h0i, hxp, ec, hwr, Int.toNat_natCast, hb1, h10, q1, q2, q4, q5, q6, q7, tk3, tk4, q3, hz, hlz, htz, hct, hbl, List.drop_zero, Nat.zero_add, hset_at, ff_44]; done)))
  refine ih (gr.right.length - (i + 1)) (by omega) _ ?_
  refine ⟨i + 1, hil, ?_, ?_, f4, f5, ?_, f22, f23, rfl, rfl⟩
  ·exact ((k3.trans (Kp.new n' H' _)).set (x := z) .dead hz0 (by omega)).trans (Kp.new _ _ _)
  ·simp only [packed, fset_apply, Nat.reduceEqDiff, ↓reduceIte, List.getD_cons_zero, List.getD_cons_succ, ff_44]
   refine .inr ⟨by rw [htk]; simp, n' + 1, ?_, by omega, ?_⟩
   ·rw [htk, List.length_append]; rfl
   ·rw [htk, List.flatMap_append]; exact hset_at _ _ _
  ·simp only [packed, fset_apply, Nat.reduceEqDiff, ↓reduceIte, List.getD_cons_zero, List.getD_cons_succ, hpv, ff_44]
def FI (H : Heap) (N : Nat) (v : Value) (l : List Int) : Prop := ∃ z, v = .slice (some ⟨z, 0, none⟩) l.length l.length ∧ N ≤ z ∧ H z = .cells (l.map (Value.int .i64)) 3 true
theorem FI.weak {H : Heap} {N N' : Nat} {v : Value} {l : List Int} (h : FI H N v l) (hn : N' ≤ N) : FI H N' v l := by
 obtain ⟨z, h1, h2, h3⟩ := h
 exact ⟨z, h1, by omega, h3⟩
theorem parts_split (f : Nat → Nd → List Int) : ∀ (a b : List Nd) (j : Nat), partsL f j (a ++ b) = partsL f j a ++ partsL f (j + a.length) b
 | [], b, j => rfl
 | x :: a, b, j => by
  show f j x ++ partsL f (j + 1) (a ++ b) = (f j x ++ partsL f (j + 1) a) ++ _
  rw [parts_split f a b (j + 1), List.append_assoc, List.length_cons, show j + 1 + a.length = j + (a.length + 1) by omega]
theorem parts_pre (f : Nat → Nd → List Int) (l : List Nd) (i : Nat) : (partsL f 0 (l.take i)).length ≤ (partsL f 0 l).length := by
 have h := parts_split f (l.take i) (l.drop i) 0
 rw [List.take_append_drop] at h
 rw [h, List.length_append]; omega
theorem nd_ne_int : (67 : Nat) ≠ 3 := by decide
theorem map_ints_len (l : List Int) : (l.map (Value.int .i64)).length = l.length := List.length_map _
theorem map_ints_take (l : List Int) : (l.map (Value.int .i64)).take l.length = l.map (Value.int .i64) := List.take_of_length_le (by rw [List.length_map]; exact Nat.le_refl _)
set_option maxHeartbeats 16000000 in
theorem by_gives {fo m : Nat} {pt pv pr pw : Option Addr} {g : Gram} {w : List Int} {rd : Nd → Nat} {n : Nat} {H : Heap} (hw : WF n H) (hf : FO H fo m pt pv pr pw g w) (sg : Sgm g) {x : Nd} {y : Fo.Way} {p : Option Addr} (hr : y.1 < g.rules.length) (hyl : y.2.length = (rgt g y.1).length)
  (hp : RS (fun c : Nat => Value.int .i64 (c : Int)) H p y.2) {wh : Int} {ov : Value} {own : List Int} (hwh : wh < 0 ∨ FI H 0 ov own)
  (hpl : ∀ (i : Nat) z, (kidsL (rgt g y.1) x.2.1 y.2)[i]? = some z → (i : Int) ≠ wh → 0 ≤ z.1 → ∀ n' H', Kp n H n' H' → Gives Try.prog 36 [.pointer (some ⟨fo, 0, none⟩), ndV z] n' H' fun v n2 H2 => FI H2 n' v (pl g w rd z))
  (hlen : (byL g w rd x y wh own).length ≤ bigN) :
  Gives Try.prog 43 [.pointer (some ⟨fo, 0, none⟩), ndV x, .agg (wyC p y).toArray, .int .i64 wh, ov] n H fun v n' H' => FI H' n v (byL g w rd x y wh own) := by
 refine Gives.of orders ok43 (Nat.le_of_ble_eq_true rfl) ?_
 have hfo := hf.f
 have k2 := (Kp.new n H (.cells (ndC x) 67 true)).trans (Kp.new (n + 1) (hset H n (.cells (ndC x) 67 true)) (.cells (wyC p y) 82 true))
 have b1 : hset (hset H n (.cells (ndC x) 67 true)) (n + 1) (.cells (wyC p y) 82 true) n = .cells (ndC x) 67 true := (hset_ne _ _ _ (by omega)).trans (hset_at _ _ _)
 have b2 := hset_at (hset H n (.cells (ndC x) 67 true)) (n + 1) (.cells (wyC p y) 82 true)
 repeat refine qqn rfl ?_
 (refine qqr ?_; simp only [SS, qx26, simprocAttr, -Int.reduceOfNat, -List.reduceReplicate, abox, ndC_cells, ndC_one, wy_cells, wy_one, ndV, ff_43])
 generalize hset (hset H n (.cells (ndC x) 67 true)) (n + 1) (.cells (wyC p y) 82 true) = H2 at *
 have hw2 := k2.wf hw
 have kq := Kp.new (n + 1 + 1) H2 (.cells [.int .i64 (y.1 : Nat)] 3 true)
 have q1 : ∀ ob, hset H2 (n + 1 + 1) ob n = H2 n := fun ob => hset_ne _ _ _ (by omega)
 have q2 : ∀ ob, hset H2 (n + 1 + 1) ob (n + 1) = H2 (n + 1) := fun ob => hset_ne _ _ _ (by omega)
 repeat (first | refine qqn rfl ?_ | ((first | refine qqr ?_ | refine qqt ?_); simp only [SS, qx26, simprocAttr, -Int.reduceOfNat, -List.reduceReplicate, b1, b2, q1, q2, wy_0, wy_all, wy_len, ndC_all, ndC_len, ff_43]) | (refine qqj ?_ ?_; focus (simp only [qqs, Nat.reduceEqDiff, ↓reduceIte, b1, b2, q1, q2, wy_0, wy_all, wy_len, ndC_all, ndC_len, ff_43]; done)) | (refine qqk ?_ ?_; focus (simp only [qqs, Nat.reduceEqDiff, ↓reduceIte, b1, b2, q1, q2, wy_0, wy_all, wy_len, ndC_all, ndC_len, ff_43]; done)))
 have b1q := (q1 (.cells [.int .i64 (y.1 : Nat)] 3 true)).trans b1
 have b2q := (q2 (.cells [.int .i64 (y.1 : Nat)] 3 true)).trans b2
 have bq := hset_at H2 (n + 1 + 1) (.cells [.int .i64 (y.1 : Nat)] 3 true)
 generalize hset H2 (n + 1 + 1) (.cells [.int .i64 (y.1 : Nat)] 3 true) = H3 at *
 have k3 := k2.trans kq
 have hw3 := k3.wf hw
 have hkg := kids_gives (x := x) hw3 (hf.mono hw k3) sg hr hyl (hp.mono hw k3)
 refine AtCall.by hkg ?_
 rintro v n4 H4 k4 hnl
 have hw4 := k4.wf hw3
 have hle4 := k4.le
 have hkid : ∀ (i : Nat) z, (kidsL (rgt g y.1) x.2.1 y.2)[i]? = some z → (i : Int) ≠ wh → 0 ≤ z.1 → ∀ n' H', Kp n H n' H' → Gives Try.prog 36 [.pointer (some ⟨fo, 0, none⟩), ndV z] n' H' fun v n2 H2 => FI H2 n' v (pl g w rd z) := hpl
 have hKl := kids_len (rgt g y.1) x.2.1 y.2 hyl
 have hr8 : (rgt g y.1).length ≤ 8 := by rw [rgF_eq hr]; exact sg.r8 _ (List.getElem_mem hr)
 have hby : byL g w rd x y wh own = (y.1 : Int) :: partsL (byF g w rd wh own) 0 (kidsL (rgt g y.1) x.2.1 y.2) := rfl
 rw [hby] at hlen ⊢
 clear hby hpl hkg hp
 generalize kidsL (rgt g y.1) x.2.1 y.2 = K at *
 obtain ⟨pk, rfl⟩ : ∃ pk, v = .slice pk K.length K.length := by
  rcases hnl with ⟨h1, h2⟩ | ⟨_, z, h2, _⟩
  ·exact ⟨none, by rw [h2, h1]; rfl⟩
  ·exact ⟨_, h2⟩
 simp only [SS, qx26, simprocAttr, -Int.reduceOfNat, -List.reduceReplicate, ff_43]
 repeat (first | refine qqn rfl ?_ | ((first | refine qqr ?_ | refine qqt ?_); simp only [SS, qx26, simprocAttr, -Int.reduceOfNat, -List.reduceReplicate, ff_43]) | (refine qqj ?_ ?_; focus (simp only [qqs, Nat.reduceEqDiff, ↓reduceIte, ff_43]; done)) | (refine qqk ?_ ?_; focus (simp only [qqs, Nat.reduceEqDiff, ↓reduceIte, ff_43]; done)))
 refine WK.loop (fun kk s => ∃ i : Nat, i ≤ K.length ∧ Kp (n + 1 + 1) H2 s.n s.H ∧ n4 ≤ s.n ∧ NL s.H (n + 1 + 1 + 1) (.slice pk K.length K.length) K ∧ FI s.H (n + 1 + 1) (s.f 11) ((y.1 : Int) :: partsL (byF g w rd wh own) 0 (K.take i)) ∧
  s.f 0 = .pointer (some ⟨fo, 0, none⟩) ∧ s.f 3 = .int .i64 wh ∧ s.f 4 = ov ∧ s.f 20 = .slice pk K.length K.length ∧ s.f 21 = .int .i64 (K.length : Nat) ∧ s.f 22 = .int .i64 (i : Nat) ∧ kk = K.length - i) K.length ?_ ?_
 ·refine ⟨0, Nat.zero_le _, kq.trans k4, Nat.le_refl _, hnl, ⟨n + 1 + 1, rfl, Nat.le_refl _, ?_⟩, rfl, rfl, rfl, rfl, rfl, rfl, rfl⟩
  exact (k4.keep _ (by omega)).trans bq
 clear hnl bq b1q b2q
 rintro kk ⟨f, n5, H5⟩ ⟨i, hi, k5, hn5, hnl, hil, f0, f3, f4, f20, f21, f22, rfl⟩ ih
 simp only at k5 hn5 hnl hil f0 f3 f4 f20 f21 f22 ih
 have hw5 := k5.wf hw2
 have hle5 := k5.le
 have kn5 : Kp n H n5 H5 := k2.trans k5
 by_cases hik : i < K.length
 case neg =>
  have hik' : ((i : Int) < (K.length : Int)) = False := by simp only [eq_iff_iff, iff_false]; omega
  rw [List.take_of_length_le (by omega)] at hil
  repeat (first | refine qqn rfl ?_ | ((first | refine qqr ?_ | refine qqt ?_); simp only [SS, qx26, simprocAttr, -Int.reduceOfNat, -List.reduceReplicate, f21, f22, hik', ff_43]) | (refine qqj ?_ ?_; focus (simp only [qqs, Nat.reduceEqDiff, ↓reduceIte, f21, f22, hik', ff_43]; done)) | (refine qqk ?_ ?_; focus (simp only [qqs, Nat.reduceEqDiff, ↓reduceIte, f21, f22, hik', ff_43]; done)))
  (first | refine WK.retNil ⟨Or.inr rfl, _, rfl, ?_, ?_⟩ | refine WK.skipNil ⟨Or.inl rfl, _, rfl, ?_, ?_⟩)
  ·exact kn5.keep
  ·simp only [packed, fset_apply, Nat.reduceEqDiff, ↓reduceIte, List.getD_cons_zero, List.getD_cons_succ, ff_43]
   exact hil.weak (by omega)
 have hik' : ((i : Int) < (K.length : Int)) = True := by simp only [eq_iff_iff, iff_true]; omega
 have h0i : (0 : Int) ≤ (i : Int) := Int.natCast_nonneg i
 rcases hnl with ⟨h1, _⟩ | ⟨hne, zk, h2, hzk0, hzk⟩
 ·rw [h1] at hik; simp at hik
 obtain ⟨rfl, _⟩ : pk = some ⟨zk, 0, none⟩ ∧ True := ⟨by cases h2; rfl, trivial⟩
 obtain ⟨z, hz⟩ : ∃ z, K[i] = z := ⟨_, rfl⟩
 have hzg : K[i]? = some z := by rw [List.getElem?_eq_getElem hik, hz]
 have hat := ndcs_at hzg
 have hln : i * 3 + 3 ≤ (K.flatMap ndC).length := by rw [ndcs_len]; omega
 have htk : K.take (i + 1) = K.take i ++ [z] := by rw [List.take_succ_eq_append_getElem hik, hz]
 have hpt : partsL (byF g w rd wh own) 0 (K.take (i + 1)) = partsL (byF g w rd wh own) 0 (K.take i) ++ byF g w rd wh own i z := by
  rw [htk, parts_snoc, List.length_take, Nat.zero_add, Nat.min_eq_left hi]
 have hpre := parts_pre (byF g w rd wh own) K (i + 1)
 rw [hpt, List.length_append] at hpre
 rw [List.length_cons] at hlen
 have hwr := wrap_up hik (show K.length ≤ maxL by unfold maxL; omega)
 obtain ⟨zo, f11, hzo0, hzo⟩ := hil
 have hzkn := live_m hw5 (z := zk) (by rw [hzk]; intro e; cases e)
 have hzon := live_m hw5 (z := zo) (by rw [hzo]; intro e; cases e)
 have hzz : zk ≠ zo := by intro e; rw [e, hzo] at hzk; exact nd_ne_int (by injection hzk with _ h _; exact h.symm)
 generalize hL : partsL (byF g w rd wh own) 0 (K.take i) = L at *
 have q3 : ∀ (H : Heap) ob, hset H n5 ob zo = H zo := fun H ob => hset_ne _ _ _ (by omega)
 repeat (first | refine qqn rfl ?_ | ((first | refine qqr ?_ | refine qqt ?_); simp only [SS, qx26, simprocAttr, -Int.reduceOfNat, -List.reduceReplicate, f3, f20, f21, f22, hik', hik, h0i, hzk, hat, hln, ndC_len, ndC_one, ndC_all, ndC_cells, tk3, tk4, sp3, hset_at, Int.toNat_natCast, Nat.zero_add, ff_43]) | (refine qqj ?_ ?_; focus (simp only [qqs, Nat.reduceEqDiff, ↓reduceIte, f3, f20, f21, f22, hik', hik, h0i, hzk, hat, hln, ndC_len, ndC_one, ndC_all, ndC_cells, tk3, tk4, sp3, hset_at, Int.toNat_natCast, Nat.zero_add, ff_43]; done)) | (refine qqk ?_ ?_; focus (simp only [qqs, Nat.reduceEqDiff, ↓reduceIte, f3, f20, f21, f22, hik', hik, h0i, hzk, hat, hln, ndC_len, ndC_one, ndC_all, ndC_cells, tk3, tk4, sp3, hset_at, Int.toNat_natCast, Nat.zero_add, ff_43]; done)))
 have kb := Kp.new n5 H5 (.cells (ndC z) 67 true)
 have hbx := hset_at H5 n5 (.cells (ndC z) 67 true)
 have hzk6 := (kb.keep zk hzkn).trans hzk
 have hzo6 := (kb.keep zo hzon).trans hzo
 have k6 := k5.trans kb
 have kn6 := kn5.trans kb
 generalize hset H5 n5 (.cells (ndC z) 67 true) = H6 at *
 have hw6 := kb.wf hw5
 have hcl : ∀ l : List Int, (y.1 : Int) :: (L ++ l) = ((y.1 : Int) :: L) ++ l := fun l => rfl
 have hL1 : ((y.1 : Int) :: L).length = L.length + 1 := rfl
 generalize (y.1 : Int) :: L = L' at *
 refine WK.cut (fun t => Kp (n + 1 + 1) H2 t.n t.H ∧ n5 + 1 ≤ t.n ∧ t.H zk = H6 zk ∧ FI t.H (n + 1 + 1) (t.f 11) (L' ++ byF g w rd wh own i z) ∧
  t.f 0 = .pointer (some ⟨fo, 0, none⟩) ∧ t.f 3 = .int .i64 wh ∧ t.f 4 = ov ∧ t.f 20 = .slice (some ⟨zk, 0, none⟩) K.length K.length ∧ t.f 21 = .int .i64 (K.length : Nat) ∧ t.f 22 = .int .i64 (i : Nat)) ?_ ?_
 ·by_cases hiw : (i : Int) = wh
  ·have hbf : byF g w rd wh own i z = own := by unfold byF; rw [if_pos hiw]
   rw [hbf] at hpre ⊢
   rcases hwh with hwh | ⟨zw, rfl, _, hzw0⟩
   ·omega
   have hzwn := live_m hw (z := zw) (by rw [hzw0]; intro e; cases e)
   have hzw := (kn6.keep zw hzwn).trans hzw0
   have hct : [zw].contains zo = false := by simp; omega
   have hbg : L'.length + own.length ≤ bigN := by omega
   first | (refine qqj ?_ ?_; focus (simp only [qqs, Nat.reduceEqDiff, ↓reduceIte, hiw]; done)) | (refine qqk ?_ ?_; focus (simp only [qqs, Nat.reduceEqDiff, ↓reduceIte, hiw]; done))
   repeat (first | refine qqn rfl ?_ | ((first | refine qqr ?_ | refine qqt ?_); simp only [SS, qx26, simprocAttr, -Int.reduceOfNat, -List.reduceReplicate, f4, f11, hzo6, hzw, map_ints_take, map_ints_len, hct, hbg, Nat.le_refl, List.drop_zero, Nat.zero_add, Nat.mul_one, ff_43]) | (refine qqj ?_ ?_; focus (simp only [qqs, Nat.reduceEqDiff, ↓reduceIte, f4, f11, hzo6, hzw, map_ints_take, map_ints_len, hct, hbg, Nat.le_refl, List.drop_zero, Nat.zero_add, Nat.mul_one, ff_43]; done)) | (refine qqk ?_ ?_; focus (simp only [qqs, Nat.reduceEqDiff, ↓reduceIte, f4, f11, hzo6, hzw, map_ints_take, map_ints_len, hct, hbg, Nat.le_refl, List.drop_zero, Nat.zero_add, Nat.mul_one, ff_43]; done)))
   refine WK.skipNil ⟨rfl, (k6.set (x := zo) .dead (by omega) (by omega)).trans (Kp.new _ _ _), by simp, (hset_ne _ _ _ (by omega)).trans (hset_ne _ _ _ hzz), ⟨n5 + 1, ?_, by omega, ?_⟩, f0, f3, f4, f20, f21, f22⟩
   ·simp only [packed, fset_apply, Nat.reduceEqDiff, ↓reduceIte, List.getD_cons_zero, List.getD_cons_succ, List.length_append, ff_43]
   ·rw [List.map_append]; exact hset_at _ _ _
  ·by_cases h0 : 0 ≤ z.1
   ·have hbf : byF g w rd wh own i z = pl g w rd z := by unfold byF; rw [if_neg hiw, if_pos h0]
    rw [hbf] at hpre ⊢
    first | (refine qqj ?_ ?_; focus (simp only [qqs, Nat.reduceEqDiff, ↓reduceIte, hiw]; done)) | (refine qqk ?_ ?_; focus (simp only [qqs, Nat.reduceEqDiff, ↓reduceIte, hiw]; done))
    repeat (first | refine qqn rfl ?_ | ((first | refine qqr ?_ | refine qqt ?_); simp only [SS, qx26, simprocAttr, -Int.reduceOfNat, -List.reduceReplicate, f0, f11, hbx, ndC_0, ndC_all, ndC_len, h0, ff_43]) | (refine qqj ?_ ?_; focus (simp only [qqs, Nat.reduceEqDiff, ↓reduceIte, f0, f11, hbx, ndC_0, ndC_all, ndC_len, h0, ff_43]; done)) | (refine qqk ?_ ?_; focus (simp only [qqs, Nat.reduceEqDiff, ↓reduceIte, f0, f11, hbx, ndC_0, ndC_all, ndC_len, h0, ff_43]; done)))
    have hcall := hkid i z hzg hiw h0 (n5 + 1) H6 kn6
    refine AtCall.by hcall ?_
    rintro v n7 H7 k7 ⟨zp, rfl, hzp0, hzp⟩
    have hle7 := k7.le
    have hw7 := k7.wf hw6
    have hzo7 := (k7.keep zo (by omega)).trans hzo6
    have hzpn := live_m hw7 (z := zp) (by rw [hzp]; intro e; cases e)
    have hct : [zp].contains zo = false := by simp; omega
    have hbg : L'.length + (pl g w rd z).length ≤ bigN := by omega
    simp only [SS, qx26, simprocAttr, -Int.reduceOfNat, -List.reduceReplicate, f11, hzo7, hzp, map_ints_take, map_ints_len, hct, hbg, Nat.le_refl, List.drop_zero, Nat.zero_add, Nat.mul_one, ff_43]
    refine WK.skipNil ⟨rfl, ((k6.trans k7).set (x := zo) .dead (by omega) (by omega)).trans (Kp.new _ _ _), ?_, (hset_ne _ _ _ (by omega)).trans ((hset_ne _ _ _ hzz).trans (k7.keep zk (by omega))), ⟨n7, ?_, by omega, ?_⟩, f0, f3, f4, f20, f21, f22⟩
    ·show n5 + 1 ≤ n7 + 1
     omega
    ·simp only [packed, fset_apply, Nat.reduceEqDiff, ↓reduceIte, List.getD_cons_zero, List.getD_cons_succ, List.length_append, ff_43]
    ·rw [List.map_append]; exact hset_at _ _ _
   ·have hbf : byF g w rd wh own i z = [] := by unfold byF; rw [if_neg hiw, if_neg h0]
    rw [hbf, List.append_nil]
    first | (refine qqj ?_ ?_; focus (simp only [qqs, Nat.reduceEqDiff, ↓reduceIte, hiw]; done)) | (refine qqk ?_ ?_; focus (simp only [qqs, Nat.reduceEqDiff, ↓reduceIte, hiw]; done))
    repeat (first | refine qqn rfl ?_ | ((first | refine qqr ?_ | refine qqt ?_); simp only [SS, qx26, simprocAttr, -Int.reduceOfNat, -List.reduceReplicate, f11, hbx, ndC_0, ndC_all, ndC_len, h0, ff_43]) | (refine qqj ?_ ?_; focus (simp only [qqs, Nat.reduceEqDiff, ↓reduceIte, f11, hbx, ndC_0, ndC_all, ndC_len, h0, ff_43]; done)) | (refine qqk ?_ ?_; focus (simp only [qqs, Nat.reduceEqDiff, ↓reduceIte, f11, hbx, ndC_0, ndC_all, ndC_len, h0, ff_43]; done)))
    exact WK.skipNil ⟨rfl, k6, Nat.le_refl _, rfl, ⟨zo, f11, hzo0, hzo6⟩, f0, f3, f4, f20, f21, f22⟩
 clear f0 f3 f4 f20 f21 f22 f11
 rintro ⟨f', n7, H7⟩ ⟨k7, hn7, hzk7, hil7, f0, f3, f4, f20, f21, f22⟩
 simp only at k7 hn7 hzk7 hil7 f0 f3 f4 f20 f21 f22 ih ⊢
 repeat (first | refine qqn rfl ?_ | ((first | refine qqr ?_ | refine qqt ?_); simp only [SS, qx26, simprocAttr, -Int.reduceOfNat, -List.reduceReplicate, f22, hwr, ff_43]) | (refine qqj ?_ ?_; focus (simp only [qqs, Nat.reduceEqDiff, ↓reduceIte, f22, hwr, ff_43]; done)) | (refine qqk ?_ ?_; focus (simp only [qqs, Nat.reduceEqDiff, ↓reduceIte, f22, hwr, ff_43]; done)))
 refine ih (K.length - (i + 1)) (by omega) _ ?_
 refine ⟨i + 1, hik, k7, by show n4 ≤ n7; omega, .inr ⟨hne, zk, rfl, hzk0, hzk7.trans hzk6⟩, ?_, f0, f3, f4, f20, f21, rfl, rfl⟩
 rw [hpt, hcl]
 exact hil7
end Go.Proofs.Ytemkglelfeidhaa

namespace Go.Proofs.Ytemkglelfeidhaa
open Go.AM Go.AM.Fo Go.RowKit
set_option maxRecDepth 100000
theorem vcells_map' (m : Option Nat) : vcells (.map m) = [.map m] := rfl
def z5 : List Value := [.slice none 0 0, .slice none 0 0, .slice none 0 0, .slice none 0 0, .map none]
section
variable (pt pv pr : Option Addr) (g : Gram) (pw : Option Addr) (w : List Int) (m : Nat)
theorem z5_eq : [Value.slice none 0 0, .slice none 0 0, .slice none 0 0, .slice none 0 0, .map none] = z5 := rfl
theorem z5_1 : (AM.splice z5 0 (gcells pt pv pr g)).length = 5 := rfl
theorem z5_0 : z5.length = 5 := rfl
theorem z5_5 (v : Value) : ((AM.splice z5 0 (gcells pt pv pr g)).set 3 v).length = 5 := rfl
theorem z5_6 : ((AM.splice z5 0 (gcells pt pv pr g)).set 3 (.slice pw w.length w.length)).set 4 (.map (some m)) = foC pt pv pr g pw w m := rfl
theorem z5_7 : ((AM.splice z5 0 (gcells pt pv pr g)).set 3 (.slice pw 0 0)).set 4 (.map (some m)) = foC pt pv pr g pw [] m := rfl
theorem lt53 : ((5 : Nat) < 3) = False := by simp
theorem fo_one : (foC pt pv pr g pw w m).all one = true := rfl
theorem fo_cells : vcells (.agg (foC pt pv pr g pw w m).toArray) = foC pt pv pr g pw w m := rfl
theorem big_0 : (bigN < 0) = False := by simp
theorem lt54 : ((5 : Nat) < 4) = False := by simp
theorem lt55 : ((5 : Nat) < 5) = False := by simp
end
structure Made (H : Heap) (N fo m : Nat) (pt pv pr pw : Option Addr) (g : Gram) (w : List Int) (ks : List Nd) (rd : Nd → Nat) : Prop where
 f : FO H fo m pt pv pr pw g w
 mr : MR H m ks rd
 ok : FoOK g w rd
 bd : ∀ x, rd x ≠ 0 → x.1 < 8 ∧ rd x ≤ 2000
 n : N ≤ fo ∧ N ≤ m
theorem Made.mono {n n' N : Nat} {H H' : Heap} {fo m : Nat} {pt pv pr pw : Option Addr} {g : Gram} {w : List Int} {ks : List Nd} {rd : Nd → Nat} (h : Made H N fo m pt pv pr pw g w ks rd) (hw : WF n H) (hk : Kp n H n' H') : Made H' N fo m pt pv pr pw g w ks rd :=
 ⟨h.f.mono hw hk, h.mr.mono hw hk, h.ok, h.bd, h.n⟩
set_option maxHeartbeats 16000000 in
theorem new_gives {pt pv pr q : Option Addr} {g : Gram} {w : List Int} {n0 : Nat} {H0 : Heap} (hw0 : WF n0 H0) (hr : RR H0 pr g.rules) (hq : RS (Value.int .i64) H0 q w) (sg : Sgm g) (hwl : w.length ≤ maxL) :
    GivesD Try.prog 14 [.agg (gcells pt pv pr g).toArray, .slice q w.length w.length] n0 H0 fun v n' H' => (10 < w.length ∧ v = .pointer none) ∨ (w.length ≤ 10 ∧ ∃ (fo m : Nat) (pw : Option Addr) (ks : List Nd) (rd : Nd → Nat), v = .pointer (some ⟨fo, 0, none⟩) ∧ Made H' n0 fo m pt pv pr pw g w ks rd) := by
  refine GivesD.of orders ok14 (Nat.le_of_ble_eq_true rfl) ?_
  repeat refine qdn rfl ?_
  (refine qdr ?_; simp only [SS, qx35, y3, simprocAttr, abox, box_cells, box_one, ff_14])
  have k1 := Kp.new n0 H0 (.cells (gcells pt pv pr g) 25 true)
  have hb1 := hset_at H0 n0 (.cells (gcells pt pv pr g) 25 true)
  generalize hset H0 n0 (.cells (gcells pt pv pr g) 25 true) = H1 at *
  have hw1 := k1.wf hw0
  by_cases h10 : (10 : Int) < (w.length : Int)
  · repeat (first | refine qdm rfl ?_ | ((first | refine qdr ?_ | refine qdt ?_); simp only [SS, qx35, y3, simprocAttr, h10, ff_14]))
    (first | refine WKD.retNil ⟨Or.inr rfl, _, rfl, ?_, ?_⟩ | refine WKD.skipNil ⟨Or.inl rfl, _, rfl, ?_, ?_⟩)
    · exact k1.keep
    · simp only [packed, fset_apply, Nat.reduceEqDiff, ↓reduceIte, List.getD_cons_zero, List.getD_cons_succ, ff_14]
      exact .inl ⟨by omega, trivial⟩
  have hl10 : w.length ≤ 10 := by omega
  have hq1 := hq.mono hw0 k1
  repeat refine qdn rfl ?_
  (refine qdr ?_; simp only [SS, qx35, y3, simprocAttr, h10, ff_14])
  repeat refine qdn rfl ?_
  refine qdm rfl ?_
  repeat refine qdn rfl ?_
  refine WKD.cut (fun s => ∃ (pw : Option Addr) (fo m : Nat), FO s.H fo m pt pv pr pw g w ∧ MR s.H m [] (fun _ => 0) ∧ Kp n0 H0 s.n s.H ∧ s.f 5 = .pointer (some ⟨fo, 0, none⟩) ∧ n0 ≤ fo ∧ n0 ≤ m) ?_ ?_
  · have hr1 := hr.mono hw0 k1
    have hw1 := k1.wf hw0
    rcases hq1 with ⟨rfl, hw⟩ | ⟨y, ky, cs, ty, own, rfl, hy, hfit, hat⟩
    · subst hw
      (refine WKD.viaWK ?_; refine WK.rgl [(0, 2)] (by kernel_rfl) ?_; simp only [wl, wl1_false, wl1_true, wl2_none, wl2_some, wl3_some, wl3_none, SS, forall_const, wx, tguard, acallee, top, tval, fput, tor, vsh, vbin, tload, tload2, tload3, tlen2, tlen3, tbox, one, tbuild, afill, Go.AM.splice, tap, tap2, tap3, tap4, tsrc, tsrc2, simprocAttr, hb1, gc_all, gc_len, aop_makemap, amake, und_mn, abox, List.length_nil, big_0, box_cells, box_one, vcells_map', z5_eq, z5_0, z5_1, z5_5, z5_7, fo_one, fo_cells, lt53, lt54, lt55, ff_14])
      refine ⟨light_cons rfl rfl (lapart_rr) light_nil, ?_⟩
      refine WK.skipNil ⟨rfl, WKD.skipNil ⟨rfl, ?_⟩⟩
      have kk := (Kp.new (n0 + 1) H1 (.map [] 0 67)).trans (Kp.new (n0 + 1 + 1) _ (.cells (foC pt pv pr g none [] (n0 + 1)) 64 true))
      refine ⟨none, n0 + 1 + 1, n0 + 1, ⟨hset_at _ _ _, hr1.mono hw1 kk, fun h => absurd rfl h⟩, ⟨(hset_ne _ _ _ (by omega)).trans (hset_at _ _ _), by simp, fun x => ⟨(fun h => by cases h), fun h => absurd rfl h⟩, (fun x h => by cases h)⟩, k1.trans kk, ?_, by omega, by omega⟩
      simp only [packed, fset_apply, Nat.reduceEqDiff, ↓reduceIte, List.getD_cons_zero, List.getD_cons_succ, ff_14]
    · have hcs := RS.cells hfit hat
      have hb0 : (bigN < w.length) = False := by simp only [eq_iff_iff, iff_false]; unfold bigN; omega
      have hky : ky ≤ cs.length := by omega
      by_cases hw : w = []
      · subst hw
        (refine WKD.viaWK ?_; refine WK.rgl [(0, 2)] (by kernel_rfl) ?_; simp only [wl, wl1_false, wl1_true, wl2_none, wl2_some, wl3_some, wl3_none, SS, forall_const, wx, tguard, acallee, top, tval, fput, tor, vsh, vbin, tload, tload2, tload3, tlen2, tlen3, tbox, one, tbuild, afill, Go.AM.splice, tap, tap2, tap3, tap4, tsrc, tsrc2, simprocAttr, hb1, gc_all, gc_len, aop_makemap, amake, und_mn, abox, List.length_nil, big_0, box_cells, box_one, vcells_map', z5_eq, z5_0, z5_1, z5_5, z5_7, fo_one, fo_cells, lt53, lt54, lt55, hy, hky, ff_14])
        refine ⟨light_cons rfl rfl (lapart_rr) light_nil, ?_⟩
        refine WK.skipNil ⟨rfl, WKD.skipNil ⟨rfl, ?_⟩⟩
        have kk := (Kp.new (n0 + 1) H1 (.map [] 0 67)).trans (Kp.new (n0 + 1 + 1) _ (.cells (foC pt pv pr g none [] (n0 + 1)) 64 true))
        refine ⟨none, n0 + 1 + 1, n0 + 1, ⟨hset_at _ _ _, hr1.mono hw1 kk, fun h => absurd rfl h⟩, ⟨(hset_ne _ _ _ (by omega)).trans (hset_at _ _ _), by simp, fun x => ⟨(fun h => by cases h), fun h => absurd rfl h⟩, (fun x h => by cases h)⟩, k1.trans kk, ?_, by omega, by omega⟩
        simp only [packed, fset_apply, Nat.reduceEqDiff, ↓reduceIte, List.getD_cons_zero, List.getD_cons_succ, ff_14]
      · have hw0' : (w.length = 0) = False := by simp [hw]
        (refine WKD.viaWK ?_; refine WK.rgl [(0, 2)] (by kernel_rfl) ?_; simp only [wl, wl1_false, wl1_true, wl2_none, wl2_some, wl3_some, wl3_none, SS, forall_const, wx, tguard, acallee, top, tval, fput, tor, vsh, vbin, tload, tload2, tload3, tlen2, tlen3, tbox, one, tbuild, afill, Go.AM.splice, tap, tap2, tap3, tap4, tsrc, tsrc2, simprocAttr, hb1, gc_all, gc_len, aop_makemap, amake, und_mn, abox, List.length_nil, big_0, hb0, hw0', hcs, hfit, box_cells, box_one, vcells_map', z5_eq, z5_0, z5_1, z5_5, z5_6, fo_one, fo_cells, lt53, lt54, lt55, hy, hky, ff_14])
        refine ⟨light_cons rfl rfl (lapart_rr) light_nil, ?_⟩
        refine WK.skipNil ⟨rfl, WKD.skipNil ⟨rfl, ?_⟩⟩
        have kk := ((Kp.new (n0 + 1) H1 (.cells (w.map (Value.int .i64)) 3 true)).trans (Kp.new (n0 + 1 + 1) _ (.map [] 0 67))).trans (Kp.new (n0 + 1 + 1 + 1) _ (.cells (foC pt pv pr g (some ⟨n0 + 1, 0, none⟩) w (n0 + 1 + 1)) 64 true))
        refine ⟨some ⟨n0 + 1, 0, none⟩, n0 + 1 + 1 + 1, n0 + 1 + 1, ⟨hset_at _ _ _, hr1.mono hw1 kk, fun _ => ⟨n0 + 1, 0, _, 3, true, rfl, (hset_ne _ _ _ (by omega)).trans ((hset_ne _ _ _ (by omega)).trans (hset_at _ _ _)), fun i y e => by rw [Nat.zero_add, List.getElem?_map, e]; rfl⟩⟩, ⟨(hset_ne _ _ _ (by omega)).trans (hset_at _ _ _), by simp, fun x => ⟨(fun h => by cases h), fun h => absurd rfl h⟩, (fun x h => by cases h)⟩, k1.trans kk, ?_, by omega, by omega⟩
        simp only [packed, fset_apply, Nat.reduceEqDiff, ↓reduceIte, List.getD_cons_zero, List.getD_cons_succ, ff_14]
  rintro ⟨f, n2, H2⟩ ⟨pw, fo, m, hf, hm, k2, f5, hfn, hmn⟩
  simp only at hf hm k2 f5
  repeat (first | refine qdm rfl ?_ | ((first | refine qdr ?_ | refine qdt ?_); simp only [SS, qx35, y3, simprocAttr, f5, ff_14]))
  have nb : ∀ (ks : List Nd) (rd : Nd → Nat) (r : Nat) (H : Heap), MR H m ks rd → RI g w r rd → ks.length ≤ 968 := fun ks rd r H h1 h2 => by
    have := nodes_len (k := 8) (L := 10) h1.nd fun x hx => by
      obtain ⟨v0, v1, v2, v3, _⟩ := h2.val x ((h1.mem x).1 hx)
      have := sg.vars
      exact ⟨v0, by omega, by omega, by omega⟩
    omega
  refine WKD.loop (fun kk s => ∃ (r : Nat) (ks : List Nd) (rd : Nd → Nat) (b : Bool), FO s.H fo m pt pv pr pw g w ∧ MR s.H m ks rd ∧ Kp n0 H0 s.n s.H ∧ RI g w r rd ∧ 0 < r ∧ r ≤ ks.length + 2 ∧ (b = true → r ≤ ks.length + 1) ∧ (b = false → ∀ x, rd x = 0 → ¬ Fnd g w rd x) ∧
    s.f 5 = .pointer (some ⟨fo, 0, none⟩) ∧ s.f 6 = .int .i64 (r : Nat) ∧ s.f 7 = .bool b ∧ kk = 2 * (968 - ks.length) + (if b then 1 else 0)) (2 * 968 + 1) ?_ ?_
  · exact ⟨1, [], fun _ => 0, true, hf, hm, k2, RI.start g w, by omega, by omega, (fun _ => by simp), (fun h => by cases h), f5, rfl, rfl, rfl⟩
  clear hf hm k2 f5
  rintro kk ⟨f, n3, H3⟩ ⟨r, ks, rd, b, hf, hm, k3, ri, hr0, hr1, hr2, hno, f5, f6, f7, rfl⟩ ih
  simp only at hf hm k3 f5 f6 f7 ih
  have hw3 := k3.wf hw0
  have hks := nb ks rd r H3 hm ri
  have hle3 := k3.le
  cases b with
  | false =>
    repeat (first | refine qdm rfl ?_ | ((first | refine qdr ?_ | refine qdt ?_); simp only [SS, qx35, y3, simprocAttr, f5, f7, ff_14]))
    (first | refine WKD.retNil ⟨Or.inr rfl, _, rfl, ?_, ?_⟩ | refine WKD.skipNil ⟨Or.inl rfl, _, rfl, ?_, ?_⟩)
    · exact k3.keep
    · simp only [packed, fset_apply, Nat.reduceEqDiff, ↓reduceIte, List.getD_cons_zero, List.getD_cons_succ, ff_14]
      refine .inr ⟨hl10, fo, m, pw, ks, rd, ?_, hf, hm, ri.over (hno rfl), fun x hx => ?_, hfn, hmn⟩
      · rfl
      · obtain ⟨v0, v1, v2, v3, v4⟩ := ri.val x hx
        have := sg.vars
        omega
  | true =>
    have hwr : IntKind.i64.wrap ((r : Int) + 1) = ((r + 1 : Nat) : Int) := by rw [wrap_in (by omega) (by omega)]; rfl
    repeat (first | refine qdm rfl ?_ | ((first | refine qdr ?_ | refine qdt ?_); simp only [SS, qx35, y3, simprocAttr, f5, f6, f7, ff_14]))
    refine AtCallY.byXD (more_gives hw3 hf hm hl10 sg hr0 (by omega)) ?_
    rintro v n4 H4 k4 ⟨ks', rd', b, rfl, hf4, hm4, h1, h2, hsub, h3, h4⟩
    have hw4 := k4.wf hw3
    simp only [SS, qx35, y3, simprocAttr, ff_14]
    repeat (first | refine qdm rfl ?_ | ((first | refine qdr ?_ | refine qdt ?_); simp only [SS, qx35, y3, simprocAttr, f6, hwr, ff_14]))
    have k04 : Kp n0 H0 n4 H4 := ((k3.kx (X := fun z => z = m)).trans k4).kp fun z hz e => by omega
    have ri' := ri.step (rd' := rd') sg.ing hr0 h1 fun x hx h => ⟨(h2 x hx).2 h, (h2 x hx).1.1 h⟩
    have hks' := nb ks' rd' (r + 1) H4 hm4 ri'
    have hr2' := hr2 rfl
    refine ih (2 * (968 - ks'.length) + (if b then 1 else 0)) (by cases b with
      | true => have := h3 rfl; simp; omega
      | false => simp; omega) _ ?_
    refine ⟨r + 1, ks', rd', b, hf4, hm4, k04, ri', by omega, by omega, (fun hb => by subst hb; have := h3 rfl; omega), fun hb x hx hF => ?_, f5, ?_, ?_, rfl⟩
    · have e : rd' = rd := by
        funext y
        by_cases hy : rd y = 0
        · rw [hy]
          exact Classical.byContradiction fun hn => h4 hb y hy ((h2 y hy).1.1 hn)
        · exact h1 y hy
      subst e
      exact h4 hb x hx hF
    · simp only [packed, fset_apply, Nat.reduceEqDiff, ↓reduceIte, List.getD_cons_zero, List.getD_cons_succ, ff_14]
    · simp only [packed, fset_apply, Nat.reduceEqDiff, ↓reduceIte, List.getD_cons_zero, List.getD_cons_succ, ff_14]
end Go.Proofs.Ytemkglelfeidhaa
