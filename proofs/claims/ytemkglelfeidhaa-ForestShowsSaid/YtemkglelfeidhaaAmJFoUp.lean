/- A part of a proof. Its conditions: none. -/
import Derived.Test.YtemkglelfeidhaaAmJFoNew
set_option linter.all false
namespace Go.Proofs.Ytemkglelfeidhaa
open Go.AM Go.AM.Fo Go.RowKit
set_option maxRecDepth 100000
theorem pt_cells (a : Option Addr) : vcells (.pointer a) = [.pointer a] := rfl
def plI (g : Gram) (w : List Int) (rd : Nd → Nat) (x : Nd) (o : Nat) (vs : List Fo.Way) (y n1 : Nat) (H1 : Heap) : Prop := y = o ∧ o < n1 ∧
 match vs.getLast? with
 | none => H1 o = .cells [.slice none 0 0] 26 true
 | some y0 => ∃ v, H1 o = .cells [v] 26 true ∧ FI H1 o v (byL g w rd x y0 (-1) [])
theorem FI.mono {n n' N : Nat} {H H' : Heap} {v : Value} {l : List Int} (h : FI H N v l) (hw : WF n H) (k : Kp n H n' H') : FI H' N v l := by
 obtain ⟨z, h1, h2, h3⟩ := h
 exact ⟨z, h1, h2, (k.keep z (live_m hw (by rw [h3]; intro e; cases e))).trans h3⟩
theorem plI.mono {g : Gram} {w : List Int} {rd : Nd → Nat} {x : Nd} {o : Nat} {vs : List Fo.Way} {y n n' : Nat} {H H' : Heap} (h : plI g w rd x o vs y n H) (hw : WF n H) (k : Kp n H n' H') : plI g w rd x o vs y n' H' := by
 obtain ⟨h1, h2, h3⟩ := h
 refine ⟨h1, Nat.lt_of_lt_of_le h2 k.le, ?_⟩
 cases hv : vs.getLast? with
 | none =>
  rw [hv] at h3
  exact (k.keep o h2).trans h3
 | some y0 =>
  rw [hv] at h3
  obtain ⟨v, h4, h5⟩ := h3
  exact ⟨v, (k.keep o h2).trans h4, h5.mono hw k⟩
theorem by_small {g : Gram} {w : List Int} {rd : Nd → Nat} (fo : FoOK g w rd) (sg : Sgm g) (hwl : w.length ≤ 10) {x : Nd} {y : Fo.Way} (h0 : rd x ≠ 0) (hy : y ∈ waysL g w rd 0 x) : (byL g w rd x y (-1) []).length ≤ bigN := by
 have h := fo.by_len sg.ing (sg.sml hwl) hy
 obtain ⟨v1, v2, v3⟩ := fo.val x h0
 unfold vM vC at h
 unfold bigN
 omega
theorem ways_weak {g : Gram} {w : List Int} {rd : Nd → Nat} {ah : Nat} {x : Nd} {y : Fo.Way} (h : y ∈ waysL g w rd ah x) : y ∈ waysL g w rd 0 x := by
 have hm := mem_ways.1 h
 exact mem_ways.2 ⟨hm.1, hm.2.1, hm.2.2.weak⟩
section
variable {fo m n0 N0 : Nat} {pt pv pr pw : Option Addr} {g : Gram} {w : List Int} {ks : List Nd} {rd : Nd → Nat} {H0 : Heap}
set_option maxHeartbeats 16000000 in
theorem plain1_doc (hw0 : WF n0 H0) (md : Made H0 N0 fo m pt pv pr pw g w ks rd) (hwl : w.length ≤ 10) (sg : Sgm g) {x : Nd} (h0 : rd x ≠ 0)
  (ih : ∀ z, rd z < rd x → rd z ≠ 0 → ∀ n H, Kp n0 H0 n H → Gives Try.prog 36 [.pointer (some ⟨fo, 0, none⟩), ndV z] n H fun v n2 H2 => FI H2 n v (pl g w rd z))
  {n : Nat} {H : Heap} (hk : Kp n0 H0 n H) {H2 : Heap} (k2 : Kp n H (n + 1 + 1) H2) (hbf : H2 n = .cells [.pointer (some ⟨fo, 0, none⟩)] 40 true) (hbx : H2 (n + 1) = .cells (ndC x) 67 true) :
  DoC (n + 1 + 1) H2 57 [.pointer (some ⟨n, 0, none⟩), .pointer (some ⟨n + 1, 0, none⟩), .pointer (some ⟨n + 1 + 1, 0, none⟩)] (n + 1 + 1) (plI g w rd x (n + 1 + 1)) (fun _ => false) (fun y => y ∈ waysL g w rd (rd x) x) := by
 refine ⟨fun vs y n H n' H' h hw k => h.mono hw k, fun vs y n1 H1 h => ⟨Nat.le_refl _, h.2.1, by rw [h.1]; exact Nat.le_refl _, by rw [h.1]; exact h.2.1⟩, ?_⟩
 intro vs y n1 H1 yw p hw1 hbase hN hI _ hgood hp hpb
 obtain ⟨rfl, hon, hIo⟩ := hI
 refine GivesX.of orders ok57 (Nat.le_of_ble_eq_true rfl) ?_
 have kx := Kp.new n1 H1 (.cells (wyC p yw) 82 true)
 have q1 : ∀ ob, hset H1 n1 ob n = H1 n := fun ob => hset_ne _ _ _ (by omega)
 have q2 : ∀ ob, hset H1 n1 ob (n + 1) = H1 (n + 1) := fun ob => hset_ne _ _ _ (by omega)
 have b1 := (hbase n (by omega)).trans hbf
 have b2 := (hbase (n + 1) (by omega)).trans hbx
 have kb : Kp (n + 1 + 1) H2 n1 H1 := ⟨hN, hbase, fun _ => hw1⟩
 have hw := hk.wf hw0
 have kn := hk.trans (k2.trans kb)
 have hm := mem_ways.1 hgood
 have hyl := Seg.len hm.2.2
 repeat (first | refine qqm rfl ?_ | ((first | refine qqr ?_ | refine qqt ?_); simp only [SS, qg0, qgl, qgs, Go.AM.splice, one, tbox, simprocAttr, q1, q2, b1, b2, wy_cells, wy_one, wy_all, wy_len, ndC_all, ndC_len, hset_at, ff_57]))
 have hcell : ∃ c, H1 (n + 1 + 1) = .cells [c] 26 true := by
  cases hv : vs.getLast? with
  | none => rw [hv] at hIo; exact ⟨_, hIo⟩
  | some y0 =>
   rw [hv] at hIo
   obtain ⟨v, h4, _⟩ := hIo
   exact ⟨v, h4⟩
 obtain ⟨c, hc⟩ := hcell
 have kx' := kn.trans kx
 have hby := by_gives (x := x) (wh := -1) (ov := .slice none 0 0) (own := []) (kx.wf hw1) (md.f.mono hw0 kx') sg hm.1 hyl (hp.mono hw1 kx) (.inl (by omega)) (fun i z hz hi hz0 n' H' k' => by
  obtain ⟨_, _, _, q⟩ := Seg.kid hm.2.2 i z hz
  rcases q with ⟨_, _, q1, q2⟩ | ⟨q, _⟩
  ·exact ih z (by omega) (by omega) n' H' (kx'.trans k')
  ·omega) (by_small md.ok sg hwl h0 (ways_weak hgood))
 refine AtCall.by hby ?_
 rintro v n3 H3 k3 ⟨z, rfl, hz0, hz⟩
 have hle3 := k3.le
 have hc3 := (k3.keep (n + 1 + 1) (by omega)).trans ((kx.keep (n + 1 + 1) hon).trans hc)
 simp only [SS, qg0, qgl, qgs, Go.AM.splice, one, tbox, simprocAttr, hc3, ff_57]
 repeat (first | refine qqm rfl ?_ | ((first | refine qqr ?_ | refine qqt ?_); simp only [SS, qg0, qgl, qgs, Go.AM.splice, one, tbox, simprocAttr, ff_57]))
 (first | refine WK.retNil ⟨Or.inr rfl, _, rfl, ?_, ?_⟩ | refine WK.skipNil ⟨Or.inl rfl, _, rfl, ?_, ?_⟩)
 ·intro q hq hX
  exact (hset_ne _ _ _ (by omega)).trans ((k3.keep q (by omega)).trans (kx.keep q hq))
 ·simp only [packed, fset_apply, Nat.reduceEqDiff, ↓reduceIte, List.getD_cons_zero, List.getD_cons_succ, ff_57]
  refine ⟨n + 1 + 1, .inl rfl, ⟨rfl, by omega, ?_⟩, trivial⟩
  rw [List.getLast?_append, List.getLast?_singleton]
  exact ⟨_, hset_at _ _ _, z, rfl, by omega, (hset_ne _ _ _ (by omega)).trans hz⟩
set_option maxHeartbeats 16000000 in
theorem plain_gives (hw0 : WF n0 H0) (md : Made H0 N0 fo m pt pv pr pw g w ks rd) (hwl : w.length ≤ 10) (sg : Sgm g) :
  ∀ (k : Nat) (x : Nd), rd x ≤ k → rd x ≠ 0 → ∀ n H, Kp n0 H0 n H → Gives Try.prog 36 [.pointer (some ⟨fo, 0, none⟩), ndV x] n H fun v n2 H2 => FI H2 n v (pl g w rd x) := by
 intro k
 induction k with
 | zero => intro x h h0; omega
 | succ k ihk =>
  intro x hxk h0 n H hk
  refine Gives.of orders ok36 (Nat.le_of_ble_eq_true rfl) ?_
  have hw := hk.wf hw0
  have hfo := (md.f.mono hw0 hk).f
  have hfn := live_m hw (z := fo) (by rw [hfo]; intro e; cases e)
  have hmr := md.mr.mono hw0 hk
  have hmn := live_m hw (z := m) (by rw [hmr.m]; intro e; cases e)
  have hsx := hmr.sm x ((hmr.mem x).2 h0)
  have k1 := Kp.new n H (.cells [.pointer (some ⟨fo, 0, none⟩)] 40 true)
  have k2 := k1.trans (Kp.new (n + 1) (hset H n (.cells [.pointer (some ⟨fo, 0, none⟩)] 40 true)) (.cells (ndC x) 67 true))
  have b1 : hset (hset H n (.cells [.pointer (some ⟨fo, 0, none⟩)] 40 true)) (n + 1) (.cells (ndC x) 67 true) n = .cells [.pointer (some ⟨fo, 0, none⟩)] 40 true := (hset_ne _ _ _ (by omega)).trans (hset_at _ _ _)
  have b2 := hset_at (hset H n (.cells [.pointer (some ⟨fo, 0, none⟩)] 40 true)) (n + 1) (.cells (ndC x) 67 true)
  repeat refine qqn rfl ?_
  (refine qqr ?_; simp only [SS, qx46, simprocAttr, abox, ndC_cells, ndC_one, pt_cells, ndV, ff_36])
  generalize hset (hset H n (.cells [.pointer (some ⟨fo, 0, none⟩)] 40 true)) (n + 1) (.cells (ndC x) 67 true) = H2 at *
  have hw2 := k2.wf hw
  have kq := Kp.new (n + 1 + 1) H2 (.cells [.slice none 0 0] 26 true)
  have b13 := (kq.keep n (by omega)).trans b1
  have b23 := (kq.keep (n + 1) (by omega)).trans b2
  have bo := hset_at H2 (n + 1 + 1) (.cells [.slice none 0 0] 26 true)
  repeat refine qqn rfl ?_
  (refine qqr ?_; simp only [SS, qx46, simprocAttr, ff_36])
  repeat refine qqn rfl ?_
  generalize hset H2 (n + 1 + 1) (.cells [.slice none 0 0] 26 true) = H3 at *
  have hw3 := kq.wf hw2
  have hfo3 := ((k2.trans kq).keep fo hfn).trans hfo
  have hlk := (hmr.mono hw (k2.trans kq)).look hsx
  have e6 : ndV x = .agg (ndC x).toArray := rfl
  rw [e6] at hlk
  (refine WK.rgs [true, true, true, true, true, true, true, true, true, false] (by kernel_rfl) (by kernel_rfl) ?_; simp only [wz, SS, forall_const, wx, tguard, acallee, top, tval, fput, tload, tload2, tload3, tfa, tfa2, tbox, one, talloc, still, still1, flat1, simprocAttr, b13, b23, hfo3, fo_4, aop_nc, tnc, aop_look, hlk, ndC_all, ndC_len, ff_36])
  obtain ⟨v1, v2, v3⟩ := md.ok.val x h0
  obtain ⟨yw, hyw⟩ := md.ok.sound x h0
  have dc := plain1_doc hw0 md hwl sg h0 (fun z h1 h2 => ihk z (by omega) h2) hk k2 b1 b2
  have hcall := ways_gives hw2 (md.f.mono hw0 (hk.trans k2)) (md.mr.mono hw0 (hk.trans k2)) hwl sg dc v2 v3 (ah := rd x) (by have := (md.bd x h0).2; omega) (vs := []) (y := n + 1 + 1) hw3 kq.le (fun z hz => kq.keep z hz) ⟨rfl, by omega, bo⟩ (.inr rfl) (fun v hv => hv)
  refine AtCall.byX hcall ?_
  rintro v n4 H4 k4 ⟨y', _, hI⟩
  obtain ⟨y1, ys, hL⟩ : ∃ y1 ys, waysL g w rd (rd x) x = y1 :: ys := by
   cases hL : waysL g w rd (rd x) x with
   | nil => rw [hL] at hyw; cases hyw
   | cons y1 ys => exact ⟨_, _, rfl⟩
  rw [hL] at hI
  obtain ⟨_, _, v', hv', hil⟩ : y' = n + 1 + 1 ∧ n + 1 + 1 < n4 ∧ ∃ v, H4 (n + 1 + 1) = .cells [v] 26 true ∧ FI H4 (n + 1 + 1) v (byL g w rd x y1 (-1) []) := hI
  rw [← pl_eq h0 hL] at hil
  simp only [SS, qx46, simprocAttr, wz, ff_36]
  repeat (first | refine qqm rfl ?_ | ((first | refine qqr ?_ | refine qqt ?_); simp only [SS, qx46, simprocAttr, hv', ff_36]))
  (first | refine WK.retNil ⟨Or.inr rfl, _, rfl, ?_, ?_⟩ | refine WK.skipNil ⟨Or.inl rfl, _, rfl, ?_, ?_⟩)
  ·intro q hq
   exact (k4.keep q (by omega) (by omega)).trans ((kq.keep q (by omega)).trans (k2.keep q hq))
  ·simp only [packed, fset_apply, Nat.reduceEqDiff, ↓reduceIte, List.getD_cons_zero, List.getD_cons_succ, ff_36]
   exact hil.weak (by omega)
end
end Go.Proofs.Ytemkglelfeidhaa

namespace Go.Proofs.Ytemkglelfeidhaa
open Go.AM Go.AM.Fo Go.RowKit
set_option maxRecDepth 100000
def WL (H : Heap) (N : Nat) (v : Value) (vs : List Fo.Way) : Prop := (vs = [] ∧ v = .slice none 0 0) ∨ ∃ (z : Nat) (qs : List (Option Addr × Fo.Way)), qs.map (·.2) = vs ∧ vs ≠ [] ∧ v = .slice (some ⟨z, 0, none⟩) vs.length vs.length ∧ N ≤ z ∧ H z = .cells (qs.flatMap fun q => wyC q.1 q.2) 82 true ∧ ∀ q ∈ qs, RS (fun c : Nat => Value.int .i64 (c : Int)) H q.1 q.2.2
def wyI (o : Nat) (vs : List Fo.Way) (y n1 : Nat) (H1 : Heap) : Prop := o ≤ y ∧ o < n1 ∧ y < n1 ∧
  ((vs = [] ∧ y = o ∧ H1 o = .cells [.slice none 0 0] 77 true) ∨
   ∃ (qs : List (Option Addr × Fo.Way)), qs.map (·.2) = vs ∧ vs ≠ [] ∧ y ≠ o ∧ H1 o = .cells [.slice (some ⟨y, 0, none⟩) vs.length vs.length] 77 true ∧ H1 y = .cells (qs.flatMap fun q => wyC q.1 q.2) 82 true ∧ ∀ q ∈ qs, RS (fun c : Nat => Value.int .i64 (c : Int)) H1 q.1 q.2.2 ∧ ∀ b, q.1 = some b → b.block < n1 ∧ b.block ≠ o ∧ b.block ≠ y)
theorem wyI.mono {o : Nat} {vs : List Fo.Way} {y n n' : Nat} {H H' : Heap} (h : wyI o vs y n H) (hw : WF n H) (k : Kp n H n' H') : wyI o vs y n' H' := by
 obtain ⟨h1, h2, h3, h4⟩ := h
 have hle := k.le
 refine ⟨h1, by omega, by omega, ?_⟩
 rcases h4 with ⟨e1, e2, e3⟩ | ⟨qs, e1, e2, e3, e4, e5, e6⟩
 ·exact .inl ⟨e1, e2, (k.keep o h2).trans e3⟩
 ·exact .inr ⟨qs, e1, e2, e3, (k.keep o h2).trans e4, (k.keep y h3).trans e5, fun q hq => ⟨(e6 q hq).1.mono hw k, fun b hb => by obtain ⟨q1, q2, q3⟩ := (e6 q hq).2 b hb; exact ⟨by omega, q2, q3⟩⟩⟩
theorem wys_len (qs : List (Option Addr × Fo.Way)) : (qs.flatMap fun q => wyC q.1 q.2).length = qs.length * 2 := by
 induction qs with
 | nil => rfl
 | cons x l ih => rw [List.flatMap_cons, List.length_append, ih, wy_len, List.length_cons]; omega
theorem visit_take (l : List Fo.Way) : (visit (fun vs => decide (vs.length < 2)) [] l).1 = l.take 2 := by
 cases l with
 | nil => rfl
 | cons a l =>
  cases l with
  | nil => rfl
  | cons b l => rfl
section
variable {fo m n0 N0 : Nat} {pt pv pr pw : Option Addr} {g : Gram} {w : List Int} {ks : List Nd} {rd : Nd → Nat} {H0 : Heap}
set_option maxHeartbeats 16000000 in
theorem first1_doc {N : Nat} {H2 : Heap} :
  DoC N H2 67 [.pointer (some ⟨N, 0, none⟩)] N (wyI N) (fun vs => decide (vs.length < 2)) (fun _ => True) := by
 refine ⟨fun vs y n H n' H' h hw k => h.mono hw k, fun vs y n1 H1 h => ⟨Nat.le_refl _, h.2.1, h.1, h.2.2.1⟩, ?_⟩
 intro vs y n1 H1 yw p hw1 hbase hN hI hok _ hp hpb
 have hvl : vs.length ≤ 1 := by
  rcases hok with h | h
  ·have : vs.length < 2 := by simpa using h
   omega
  ·rw [h]; simp
 obtain ⟨hoy, hon, hyn, hI⟩ := hI
 refine GivesX.of orders ok67 (Nat.le_of_ble_eq_true rfl) ?_
 have kx := Kp.new n1 H1 (.cells (wyC p yw) 82 true)
 have q1 : ∀ (H : Heap) ob, hset H n1 ob N = H N := fun H ob => hset_ne _ _ _ (by omega)
 have q2 : ∀ (H : Heap) ob, hset H (n1 + 1) ob N = H N := fun H ob => hset_ne _ _ _ (by omega)
 have q3 : ∀ (H : Heap) ob, hset H (n1 + 1 + 1) ob N = H N := fun H ob => hset_ne _ _ _ (by omega)
 have hb1 : (bigN < 1) = False := by simp [bigN]
 have h10 : ((1 : Nat) = 0) = False := by simp
 have spw : AM.splice [Value.int IntKind.i64 (Int.ofNat 0), Value.slice none 0 0] 0 (wyC p yw) = wyC p yw := rfl
 have tw : List.take 2 (wyC p yw) = wyC p yw := rfl
 rcases hI with ⟨rfl, rfl, ho⟩ | ⟨qs, hqv, hne, hyo, ho, hy, hqs⟩
 ·repeat (first | refine qqm rfl ?_ | ((first | refine qqr ?_ | refine qqt ?_); simp only [SS, qg0, qgb, qgl, qgs, qgz, qge, tor, Go.AM.splice, one, tlen2, tlen3, tbox, simprocAttr, -Int.reduceOfNat, -List.reduceReplicate, q1, q2, q3, ho, wy_cells, wy_one, wy_all, wy_len, hset_at, hb1, h10, spw, tw, ff_67]))
  (first | refine WK.retNil ⟨Or.inr rfl, _, rfl, ?_, ?_⟩ | refine WK.skipNil ⟨Or.inl rfl, _, rfl, ?_, ?_⟩)
  ·intro q hq hX
   exact (hset_ne _ _ _ (by omega)).trans ((hset_ne _ _ _ (by omega)).trans ((hset_ne _ _ _ (by omega)).trans (hset_ne _ _ _ (by omega))))
  ·simp only [packed, fset_apply, Nat.reduceEqDiff, ↓reduceIte, List.getD_cons_zero, List.getD_cons_succ, ff_67]
   refine ⟨n1 + 1 + 1, by omega, ⟨by omega, by omega, by omega, .inr ⟨[(p, yw)], rfl, by simp, by omega, hset_at _ _ _, (hset_ne _ _ _ (by omega)).trans (hset_at _ _ _), fun q hq => ?_⟩⟩, by first | rfl | trivial⟩
   obtain rfl : q = (p, yw) := by simpa using hq
   refine ⟨RS.keep hp fun b hb => ?_, fun b hb => ?_⟩
   ·obtain ⟨e1, e2, e3⟩ := hpb b hb
    exact (hset_ne _ _ _ (by omega)).trans ((hset_ne _ _ _ (by omega)).trans ((hset_ne _ _ _ (by omega)).trans (hset_ne _ _ _ (by omega))))
   ·obtain ⟨e1, e2, e3⟩ := hpb b hb
    exact ⟨by omega, e2, by omega⟩
 ·have hv1 : vs.length = 1 := by have := List.length_pos_iff.2 hne; omega
  have hql : qs.length = 1 := by rw [← hqv, List.length_map] at hv1; exact hv1
  have hC2 : (qs.flatMap fun q => wyC q.1 q.2).length = 2 := by rw [wys_len]; omega
  have hCt : (qs.flatMap fun q => wyC q.1 q.2).take 2 = qs.flatMap fun q => wyC q.1 q.2 := List.take_of_length_le (by omega)
  rw [hv1] at ho
  have hCe : (qs ++ [(p, yw)]).flatMap (fun q => wyC q.1 q.2) = (qs.flatMap fun q => wyC q.1 q.2) ++ wyC p yw := by rw [List.flatMap_append]; simp
  generalize hCg : (qs.flatMap fun q => wyC q.1 q.2) = C at *
  have q4 : ∀ (H : Heap) ob, hset H n1 ob y = H y := fun H ob => hset_ne _ _ _ (by omega)
  have q5 : ∀ (H : Heap) ob, hset H (n1 + 1) ob y = H y := fun H ob => hset_ne _ _ _ (by omega)
  have q6 : ∀ (H : Heap) ob, hset H y ob N = H N := fun H ob => hset_ne _ _ _ (by omega)
  have hct : [n1 + 1].contains y = false := by simp; omega
  have hb2 : 2 ≤ bigN := by unfold bigN; omega
  repeat (first | refine qqm rfl ?_ | ((first | refine qqr ?_ | refine qqt ?_); simp only [SS, qg0, qgb, qgl, qgs, qgz, qge, tor, Go.AM.splice, one, tlen2, tlen3, tbox, simprocAttr, -Int.reduceOfNat, -List.reduceReplicate, q1, q2, q3, q4, q5, q6, ho, hy, wy_cells, wy_one, wy_all, wy_len, hset_at, hb1, hb2, h10, spw, tw, hC2, hCt, hct, List.drop_zero, ff_67]))
  (first | refine WK.retNil ⟨Or.inr rfl, _, rfl, ?_, ?_⟩ | refine WK.skipNil ⟨Or.inl rfl, _, rfl, ?_, ?_⟩)
  ·intro q hq hX
   exact (hset_ne _ _ _ (by omega)).trans ((hset_ne _ _ _ (by omega)).trans ((hset_ne _ _ _ (by omega)).trans ((hset_ne _ _ _ (by omega)).trans (hset_ne _ _ _ (by omega)))))
  ·simp only [packed, fset_apply, Nat.reduceEqDiff, ↓reduceIte, List.getD_cons_zero, List.getD_cons_succ, ff_67]
   have hle : (vs ++ [yw]).length = 2 := by simp; omega
   refine ⟨n1 + 1 + 1, by omega, ⟨by omega, by omega, by omega, .inr ⟨qs ++ [(p, yw)], by rw [List.map_append, hqv]; rfl, by simp, by omega, ?_, ?_, fun q hq => ?_⟩⟩, ?_⟩
   ·rw [hle]; exact hset_at _ _ _
   ·rw [hCe]; exact (hset_ne _ _ _ (by omega)).trans (hset_at _ _ _)
   ·rcases List.mem_append.1 hq with hq | hq
    ·obtain ⟨h1, h2⟩ := hqs q hq
     refine ⟨RS.keep h1 fun b hb => ?_, fun b hb => ?_⟩
     ·obtain ⟨e1, e2, e3⟩ := h2 b hb
      exact (hset_ne _ _ _ (by omega)).trans ((hset_ne _ _ _ (by omega)).trans ((hset_ne _ _ _ (by omega)).trans ((hset_ne _ _ _ (by omega)).trans (hset_ne _ _ _ (by omega)))))
     ·obtain ⟨e1, e2, e3⟩ := h2 b hb
      exact ⟨by omega, e2, by omega⟩
    obtain rfl : q = (p, yw) := by simpa using hq
    refine ⟨RS.keep hp fun b hb => ?_, fun b hb => ?_⟩
    ·obtain ⟨e1, e2, e3⟩ := hpb b hb
     exact (hset_ne _ _ _ (by omega)).trans ((hset_ne _ _ _ (by omega)).trans ((hset_ne _ _ _ (by omega)).trans ((hset_ne _ _ _ (by omega)).trans (hset_ne _ _ _ (by omega)))))
    ·obtain ⟨e1, e2, e3⟩ := hpb b hb
     exact ⟨by omega, e2, by omega⟩
   ·rw [hle]; rfl
set_option maxHeartbeats 16000000 in
theorem first_gives (hw0 : WF n0 H0) (hf0 : FO H0 fo m pt pv pr pw g w) (hm0 : MR H0 m ks rd) (hwl : w.length ≤ 10) (sg : Sgm g) {x : Nd} (hx1 : x.2.1 ≤ x.2.2) (hx2 : x.2.2 ≤ w.length) :
  Gives Try.prog 41 [.pointer (some ⟨fo, 0, none⟩), ndV x] n0 H0 fun v n2 H2 => WL H2 n0 v ((waysL g w rd 0 x).take 2) := by
 refine Gives.of orders ok41 (Nat.le_of_ble_eq_true rfl) ?_
 have hfo := hf0.f
 have k2 := Kp.new n0 H0 (.cells (ndC x) 67 true)
 have b1 := hset_at H0 n0 (.cells (ndC x) 67 true)
 repeat refine qqn rfl ?_
 (refine qqr ?_; simp only [SS, qx40, simprocAttr, -Int.reduceOfNat, -List.reduceReplicate, abox, ndC_cells, ndC_one, ndV, ff_41])
 repeat refine qqn rfl ?_
 generalize hset H0 n0 (.cells (ndC x) 67 true) = H2 at *
 have hw2 := k2.wf hw0
 have kq := Kp.new (n0 + 1) H2 (.cells [.slice none 0 0] 77 true)
 have b13 := (kq.keep n0 (by omega)).trans b1
 have bo := hset_at H2 (n0 + 1) (.cells [.slice none 0 0] 77 true)
 (refine qqr ?_; simp only [SS, qx40, simprocAttr, -Int.reduceOfNat, -List.reduceReplicate, ff_41])
 generalize hset H2 (n0 + 1) (.cells [.slice none 0 0] 77 true) = H3 at *
 have hw3 := kq.wf hw2
 have hcall := ways_gives (vs := []) (y := n0 + 1) hw2 (hf0.mono hw0 k2) (hm0.mono hw0 k2) hwl sg (first1_doc (N := n0 + 1) (H2 := H2)) hx1 hx2 (ah := 0) (by omega) hw3 kq.le (fun z hz => kq.keep z hz) ⟨Nat.le_refl _, by omega, by omega, .inl ⟨rfl, rfl, bo⟩⟩ (.inr rfl) (fun _ _ => trivial)
 rw [visit_take] at hcall
 repeat (first | refine qqm rfl ?_ | ((first | refine qqr ?_ | refine qqt ?_); simp only [SS, qx40, simprocAttr, -Int.reduceOfNat, -List.reduceReplicate, b13, ndC_all, ndC_len, ff_41]))
 refine AtCall.byX hcall ?_
 rintro v n4 H4 k4 ⟨y', hy', ho1, ho2, ho3, hI⟩
 rcases hI with ⟨h1, h2, ho⟩ | ⟨qs, h1, h2, h3, ho, hy, hqs⟩
 ·simp only [SS, qx40, simprocAttr, -Int.reduceOfNat, -List.reduceReplicate, ff_41]
  repeat (first | refine qqm rfl ?_ | ((first | refine qqr ?_ | refine qqt ?_); simp only [SS, qx40, simprocAttr, -Int.reduceOfNat, -List.reduceReplicate, ho, ff_41]))
  (first | refine WK.retNil ⟨Or.inr rfl, _, rfl, ?_, ?_⟩ | refine WK.skipNil ⟨Or.inl rfl, _, rfl, ?_, ?_⟩)
  ·intro q hq
   exact (k4.keep q (by omega) (by omega)).trans ((kq.keep q (by omega)).trans (k2.keep q hq))
  ·simp only [packed, fset_apply, Nat.reduceEqDiff, ↓reduceIte, List.getD_cons_zero, List.getD_cons_succ, ff_41]
   exact .inl ⟨h1, rfl⟩
 ·simp only [SS, qx40, simprocAttr, -Int.reduceOfNat, -List.reduceReplicate, ff_41]
  repeat (first | refine qqm rfl ?_ | ((first | refine qqr ?_ | refine qqt ?_); simp only [SS, qx40, simprocAttr, -Int.reduceOfNat, -List.reduceReplicate, ho, ff_41]))
  (first | refine WK.retNil ⟨Or.inr rfl, _, rfl, ?_, ?_⟩ | refine WK.skipNil ⟨Or.inl rfl, _, rfl, ?_, ?_⟩)
  ·intro q hq
   exact (k4.keep q (by omega) (by omega)).trans ((kq.keep q (by omega)).trans (k2.keep q hq))
  ·simp only [packed, fset_apply, Nat.reduceEqDiff, ↓reduceIte, List.getD_cons_zero, List.getD_cons_succ, ff_41]
   exact .inr ⟨y', qs, h1, h2, rfl, by omega, hy, fun q hq => (hqs q hq).1⟩
end
end Go.Proofs.Ytemkglelfeidhaa

namespace Go.Proofs.Ytemkglelfeidhaa
open Go.AM Go.AM.Fo Go.RowKit
set_option maxRecDepth 100000
def stC (q : Nd × Int) : List Value := [.int .i64 q.1.1, .int .i64 (q.1.2.1 : Nat), .int .i64 (q.1.2.2 : Nat), .int .i64 q.2]
def stV (q : Nd × Int) : Value := .agg (stC q).toArray
theorem st_3 (q : Nd × Int) : (stC q)[3]? = some (.int .i64 q.2) := rfl
theorem st_from (q : Nd × Int) : ((stC q).drop 0).take 3 = ndC q.1 := rfl
theorem st_from2 (q : Nd × Int) : (stC q).take 3 = ndC q.1 := rfl
theorem st_all (q : Nd × Int) : ((stC q).drop 0).take 4 = stC q := rfl
theorem st_all2 (q : Nd × Int) : (stC q).take 4 = stC q := rfl
theorem st_len (q : Nd × Int) : (stC q).length = 4 := rfl
theorem st_one (q : Nd × Int) : (stC q).all one = true := rfl
theorem st_cells (q : Nd × Int) : vcells (.agg (stC q).toArray) = stC q := rfl
theorem und_ms : Try.prog.underlying 75 = some (.map 67 74) := by kernel_rfl
structure MC (H : Heap) (mc : Nat) (todo : List Nd) (par : Nd → Nd × Int) : Prop where
 m : H mc = .map (vE ndV (fun x => stV (par x)) todo 0) todo.length 67
 sm : ∀ x, x ∈ todo → smN x
theorem MC.mono {n n' : Nat} {H H' : Heap} {mc : Nat} {todo : List Nd} {par : Nd → Nd × Int} (h : MC H mc todo par) (hw : WF n H) (hk : Kp n H n' H') : MC H' mc todo par :=
 ⟨by rw [hk.keep _ (live_lt hw (by rw [h.m]; intro e; cases e))]; exact h.m, h.sm⟩
theorem MC.look {H : Heap} {mc : Nat} {todo : List Nd} {par : Nd → Nd × Int} (h : MC H mc todo par) {x : Nd} (hm : x ∈ todo) (b : Bool) : alookup Try.prog 75 H (.map (some mc)) (ndV x) b = some { v := if b then .tuple #[stV (par x), .bool true] else stV (par x), rd := [mc] } :=
 gkN.vyes (h.sm x hm) h.sm hm und_ms h.m b
section
variable {fo m n0 N0 : Nat} {pt pv pr pw : Option Addr} {g : Gram} {w : List Int} {ks : List Nd} {rd : Nd → Nat} {H0 : Heap}
theorem load_nd {H : Heap} {x : Nat} {cs : List Value} {ty : TypeId} {own : Bool} (h : H x = .cells cs ty own) (hl : cs.length = 3) : (aload Try.prog 67 H (.pointer (some ⟨x, 0, none⟩))) = some { v := .agg cs.toArray, rd := [x] } := by
 have h1 : aggT Try.prog 67 = some true := by kernel_rfl
 have h2 : Try.prog.cellsOf 67 = 3 := by kernel_rfl
 unfold aload
 simp only [h, h1, h2]
 rw [if_pos (by omega), List.drop_zero, List.take_of_length_le (by omega)]
theorem res_nd {f : Fr} {n : Nat} {H : Heap} {x : Nat} {cs : List Value} {ty : TypeId} {own : Bool} (hf : f 2 = .pointer (some ⟨x, 0, none⟩)) (h : H x = .cells cs ty own) (hl : cs.length = 3) : aresultsL Try.prog ⟨f, n, H⟩ Try.f35.results.toList = some [.agg cs.toArray] := by
 have e : Try.f35.results.toList = [.cell 2 67] := rfl
 rw [e]
 unfold aresultsL aresult
 simp only [hf, load_nd h hl]
 rfl
set_option maxHeartbeats 4000000 in
theorem root_gives (hw : WF n0 H0) (hf : FO H0 fo m pt pv pr pw g w) : Gives Try.prog 35 [.pointer (some ⟨fo, 0, none⟩)] n0 H0 fun v n' H' => v = ndV (root w) := by
 refine Gives.of orders ok35 (Nat.le_of_ble_eq_true rfl) ?_
 have hfo := hf.f
 have hfn := live_m hw (z := fo) (by rw [hfo]; intro e; cases e)
 have q1 : ∀ ob, hset H0 n0 ob fo = H0 fo := fun ob => hset_ne _ _ _ (by omega)
 repeat (first | refine qqm rfl ?_ | ((first | refine qqr ?_ | refine qqt ?_); simp only [SS, qg0, qgl, qgs, qgf, qga, Go.AM.splice, one, tlen2, tlen3, tbuild, afill, simprocAttr, -Int.reduceOfNat, -List.reduceReplicate, q1, hfo, fo_3, aop_nc, tnc, hset_at, ff_35]))
 refine WK.retNil ⟨Or.inr rfl, _, res_nd (x := n0) ?_ (hset_at _ _ _) rfl, fun z hz => ?_, ?_⟩
 ·simp only [packed, fset_apply, Nat.reduceEqDiff, ↓reduceIte, List.getD_cons_zero, List.getD_cons_succ, ff_35]
 ·exact hset_ne _ _ _ (by omega)
 ·rfl
set_option maxHeartbeats 4000000 in
theorem one_gives {n : Nat} {H : Heap} (hw0 : WF n0 H0) (md : Made H0 N0 fo m pt pv pr pw g w ks rd) (hwl : w.length ≤ 10) (sg : Sgm g) (hk : Kp n0 H0 n H) :
  Gives Try.prog 15 [.pointer (some ⟨fo, 0, none⟩)] n H fun v n' H' => (rd (root w) = 0 ∧ v = .tuple #[.slice none 0 0, .bool false]) ∨ (rd (root w) ≠ 0 ∧ ∃ u, v = .tuple #[u, .bool true] ∧ FI H' n u (pl g w rd (root w))) := by
 refine Gives.of orders ok15 (Nat.le_of_ble_eq_true rfl) ?_
 have hw := hk.wf hw0
 have mdn := md.mono hw0 hk
 have hfo := mdn.f.f
 have hsx : smN (root w) := by unfold smN root; simp only; omega
 have hroot := root_gives hw mdn.f
 repeat (first | refine qqm rfl ?_ | ((first | refine qqr ?_ | refine qqt ?_); simp only [SS, qx36, simprocAttr, -Int.reduceOfNat, -List.reduceReplicate, hfo, fo_4, aop_nc, tnc, aop_look, ff_15]))
 refine AtCall.by hroot ?_
 rintro v n1 H1 k1 rfl
 have hw1 := k1.wf hw
 have md1 := mdn.mono hw k1
 have hlk := md1.mr.look hsx
 by_cases h0 : rd (root w) = 0
 ·have h0' : (((rd (root w) : Nat) : Int) = 0) = True := by simp only [eq_iff_iff, iff_true]; omega
  simp only [SS, qx36, simprocAttr, -Int.reduceOfNat, -List.reduceReplicate, hlk, h0', aop_look, ff_15]
  repeat (first | refine qqm rfl ?_ | ((first | refine qqr ?_ | refine qqt ?_); simp only [SS, qx36, simprocAttr, -Int.reduceOfNat, -List.reduceReplicate, ff_15]))
  (first | refine WK.retNil ⟨Or.inr rfl, _, rfl, ?_, ?_⟩ | refine WK.skipNil ⟨Or.inl rfl, _, rfl, ?_, ?_⟩)
  ·exact k1.keep
  ·simp only [packed, fset_apply, Nat.reduceEqDiff, ↓reduceIte, List.getD_cons_zero, List.getD_cons_succ, ff_15]
   exact .inl ⟨h0, trivial⟩
 ·have h0' : (((rd (root w) : Nat) : Int) = 0) = False := by simp only [eq_iff_iff, iff_false]; omega
  simp only [SS, qx36, simprocAttr, -Int.reduceOfNat, -List.reduceReplicate, hlk, h0', aop_look, ff_15]
  repeat (first | refine qqm rfl ?_ | ((first | refine qqr ?_ | refine qqt ?_); simp only [SS, qx36, simprocAttr, -Int.reduceOfNat, -List.reduceReplicate, ff_15]))
  refine AtCall.by (root_gives hw1 md1.f) ?_
  rintro v n2 H2 k2 rfl
  simp only [SS, qx36, simprocAttr, -Int.reduceOfNat, -List.reduceReplicate, aop_look, ff_15]
  refine AtCall.by (plain_gives hw0 md hwl sg _ (root w) (Nat.le_refl _) h0 n2 H2 (hk.trans (k1.trans k2))) ?_
  rintro u n3 H3 k3 hu
  have hl2 := k2.le
  have hl1 := k1.le
  simp only [SS, qx36, simprocAttr, -Int.reduceOfNat, -List.reduceReplicate, aop_look, ff_15]
  repeat (first | refine qqm rfl ?_ | ((first | refine qqr ?_ | refine qqt ?_); simp only [SS, qx36, simprocAttr, -Int.reduceOfNat, -List.reduceReplicate, ff_15]))
  (first | refine WK.retNil ⟨Or.inr rfl, _, rfl, ?_, ?_⟩ | refine WK.skipNil ⟨Or.inl rfl, _, rfl, ?_, ?_⟩)
  ·intro z hz
   exact (k3.keep z (by omega)).trans ((k2.keep z (by omega)).trans (k1.keep z hz))
  ·simp only [packed, fset_apply, Nat.reduceEqDiff, ↓reduceIte, List.getD_cons_zero, List.getD_cons_succ, ff_15]
   exact .inr ⟨h0, u, rfl, hu.weak (by omega)⟩
theorem kid_nd {ah : Nat} {ss : List Int} {a b : Nat} {cs : List Nat} (h : Seg w rd ah ss a cs b) {i : Nat} {z : Nd} (hz : (kidsL ss a cs)[i]? = some z) (h0 : 0 ≤ z.1) : rd z ≠ 0 := by
 obtain ⟨_, _, _, q⟩ := Seg.kid h i z hz
 rcases q with ⟨_, _, q1, _⟩ | ⟨q, _⟩
 ·omega
 ·omega
theorem WL.one {H : Heap} {N : Nat} {v : Value} {y : Fo.Way} (h : WL H N v [y]) : ∃ (z : Nat) (p : Option Addr), v = .slice (some ⟨z, 0, none⟩) 1 1 ∧ N ≤ z ∧ H z = .cells (wyC p y) 82 true ∧ RS (fun c : Nat => Value.int .i64 (c : Int)) H p y.2 := by
 rcases h with ⟨h, _⟩ | ⟨z, qs, h1, _, h3, h4, h5, h6⟩
 ·cases h
 ·cases qs with
  | nil => cases h1
  | cons q qs =>
   cases qs with
   | nil =>
    have e : q.2 = y := by simpa using h1
    refine ⟨z, q.1, h3, h4, ?_, ?_⟩
    ·rw [h5, ← e]; simp
    ·rw [← e]; exact h6 q (by simp)
   | cons q2 qs => simp at h1
theorem by_gives2 {n : Nat} {H : Heap} (hw0 : WF n0 H0) (md : Made H0 N0 fo m pt pv pr pw g w ks rd) (hwl : w.length ≤ 10) (sg : Sgm g) (hk : Kp n0 H0 n H) {x : Nd} {y : Fo.Way} {p : Option Addr} {ah : Nat} (hy : y ∈ waysL g w rd ah x)
  (hp : RS (fun c : Nat => Value.int .i64 (c : Int)) H p y.2) {wh : Int} {ov : Value} {own : List Int} (hwh : wh < 0 ∨ FI H 0 ov own) (hlen : (byL g w rd x y wh own).length ≤ bigN) :
  Gives Try.prog 43 [.pointer (some ⟨fo, 0, none⟩), ndV x, .agg (wyC p y).toArray, .int .i64 wh, ov] n H fun v n' H' => FI H' n v (byL g w rd x y wh own) := by
 have hm := mem_ways.1 hy
 exact by_gives (hk.wf hw0) (md.f.mono hw0 hk) sg hm.1 (Seg.len hm.2.2) hp hwh (fun i z hz hi h0 n' H' k' => plain_gives hw0 md hwl sg _ z (Nat.le_refl _) (kid_nd hm.2.2 hz h0) n' H' (hk.trans k')) hlen
set_option maxHeartbeats 16000000 in
theorem up_gives {n : Nat} {H : Heap} (hw0 : WF n0 H0) (md : Made H0 N0 fo m pt pv pr pw g w ks rd) (hwl : w.length ≤ 10) (sg : Sgm g) (hk : Kp n0 H0 n H) {mc : Nat} {todo : List Nd} {par : Nd → Nd × Int} (c : Cm g w rd todo par) (hmc : MC H mc todo par) (ht : todo.length ≤ 968)
  {j : Nat} {x : Nd} (hx : todo[j]? = some x) {ov : Value} {own : List Int} (ho : FI H 0 ov own) (hown : own.length + vC * j ≤ 16 * vM * (x.2.2 - x.2.1) + vC * 969) :
  Gives Try.prog 42 [.pointer (some ⟨fo, 0, none⟩), .map (some mc), ndV x, ov] n H fun v n' H' => ∃ out, Up g w rd par x own out ∧ FI H' 0 v out ∧ out.length ≤ bigN := by
 refine Gives.of orders ok42 (Nat.le_of_ble_eq_true rfl) ?_
 have hw := hk.wf hw0
 have mdn := md.mono hw0 hk
 have hmn := live_m hw (z := mc) (by rw [hmc.m]; intro e; cases e)
 have k2 := Kp.new n H (.cells (ndC x) 67 true)
 have b1 := hset_at H n (.cells (ndC x) 67 true)
 repeat refine qqn rfl ?_
 (refine qqr ?_; simp only [SS, qx27, simprocAttr, -Int.reduceOfNat, -List.reduceReplicate, abox, ndC_cells, ndC_one, ndV, ff_42])
 generalize hset H n (.cells (ndC x) 67 true) = H2 at *
 have hw2 := k2.wf hw
 have hlk := (hmc.mono hw k2).look (List.mem_of_getElem? hx) false
 have e6 : ndV x = .agg (ndC x).toArray := rfl
 rw [e6] at hlk
 simp only [stV, if_false, Bool.false_eq_true] at hlk
 have sp4 : ∀ q, AM.splice [Value.int IntKind.i64 (Int.ofNat 0), Value.int IntKind.i64 (Int.ofNat 0), Value.int IntKind.i64 (Int.ofNat 0), Value.int IntKind.i64 (Int.ofNat 0)] 0 (stC q) = stC q := fun q => rfl
 have sp4' : ∀ q q', AM.splice (stC q) 0 (stC q') = stC q' := fun q q' => rfl
 have sp3' : ∀ q q', AM.splice (ndC q) 0 (ndC q') = ndC q' := fun q q' => rfl
 repeat (first | refine qqm rfl ?_ | ((first | refine qqr ?_ | refine qqt ?_); simp only [SS, qx27, simprocAttr, -Int.reduceOfNat, -List.reduceReplicate, b1, ndC_all, ndC_len, aop_look, hlk, st_cells, st_one, st_len, hset_at, st_all, st_all2, sp4, ff_42]))
 have k3 := k2.trans (Kp.new (n + 1) H2 (.cells (stC (par x)) 74 true))
 have b13 := ((Kp.new (n + 1) H2 (.cells (stC (par x)) 74 true)).keep n (by omega)).trans b1
 have bs3 := hset_at H2 (n + 1) (.cells (stC (par x)) 74 true)
 generalize hset H2 (n + 1) (.cells (stC (par x)) 74 true) = H3 at *
 refine WK.loop (fun kk s => ∃ (j' bs : Nat) (x' : Nd) (own' : List Int), todo[j']? = some x' ∧ Kp n H s.n s.H ∧ s.H n = .cells (ndC x') 67 true ∧ n < bs ∧ bs < s.n ∧ s.H bs = .cells (stC (par x')) 74 true ∧ FI s.H 0 (s.f 3) own' ∧ own'.length + vC * j' ≤ 16 * vM * (x'.2.2 - x'.2.1) + vC * 969 ∧ (∀ out, Up g w rd par x' own' out → Up g w rd par x own out) ∧
  s.f 0 = .pointer (some ⟨fo, 0, none⟩) ∧ s.f 1 = .map (some mc) ∧ s.f 6 = .pointer (some ⟨n, 0, none⟩) ∧ s.f 9 = .pointer (some ⟨bs, 0, none⟩) ∧ kk = j') j ?_ ?_
 ·exact ⟨j, n + 1, x, own, hx, k3, b13, by omega, by show n + 1 < n + 1 + 1; omega, bs3, ho.mono hw k3, hown, fun _ h => h, rfl, rfl, rfl, rfl, rfl⟩
 clear hx ho hown b1 b13 bs3 k2 k3 hlk hw2
 rintro kk ⟨f, n4, H4⟩ ⟨j', bs, x', own', hx, k4, b1, hbs1, hbs2, b2, ho, hown, hup, f0, f1, f6, f9, rfl⟩ ih
 simp only at k4 b1 hbs2 b2 ho f0 f1 f6 f9 ih
 have hw4 := k4.wf hw
 have hle4 := k4.le
 rcases c.one hx with ⟨rfl, rfl, h1⟩ | ⟨_, h1, i, y, k, hij, hxi, hk2, hwy, hkz, hz0⟩
 ·have h1' : ((0 : Int) ≤ (par (root w)).2) = False := by simp only [eq_iff_iff, iff_false]; omega
  repeat (first | refine qqm rfl ?_ | ((first | refine qqr ?_ | refine qqt ?_); simp only [SS, qx27, simprocAttr, -Int.reduceOfNat, -List.reduceReplicate, f9, b2, st_3, h1', ff_42]))
  (first | refine WK.retNil ⟨Or.inr rfl, _, rfl, ?_, ?_⟩ | refine WK.skipNil ⟨Or.inl rfl, _, rfl, ?_, ?_⟩)
  ·exact k4.keep
  ·simp only [packed, fset_apply, Nat.reduceEqDiff, ↓reduceIte, List.getD_cons_zero, List.getD_cons_succ, ff_42]
   refine ⟨own', hup _ (.stop h1), ho, ?_⟩
   have e : (root w).2.2 - (root w).2.1 ≤ 10 := by unfold root; simp only; omega
   have := Nat.mul_le_mul_left (16 * vM) e
   unfold vM at hown this
   unfold vC at hown
   unfold bigN
   omega
 have h1' : ((0 : Int) ≤ (par x').2) = True := by simp only [eq_iff_iff, iff_true]; omega
 obtain ⟨x1, hx1⟩ : ∃ x1, (par x').1 = x1 := ⟨_, rfl⟩
 rw [hx1] at hxi hwy hkz
 obtain ⟨hrd, h8⟩ := c.ok x1 (List.mem_of_getElem? hxi)
 obtain ⟨v1, v2, v3⟩ := md.ok.val x1 hrd
 have hym : y ∈ waysL g w rd 0 x1 := by rw [hwy]; simp
 have hbl := md.ok.by_len2 sg.ing (sg.sml hwl) hym hkz own'
 have hil := (List.getElem?_eq_some_iff.1 hxi).1
 have hbig : (byL g w rd x1 y (par x').2 own').length + vC * i ≤ 16 * vM * (x1.2.2 - x1.2.1) + vC * 969 := by
  rw [hk2]
  have : vC * i + vC ≤ vC * kk := by rw [← Nat.mul_succ]; exact Nat.mul_le_mul (Nat.le_refl _) hij
  omega
 have hbb : (byL g w rd x1 y (par x').2 own').length ≤ bigN := by
  unfold vM vC at hbig
  unfold bigN
  omega
 have k5 := k4.set (x := n) (.cells (ndC x1) 67 true) (Nat.le_refl _) (by omega)
 have b15 := hset_at H4 n (.cells (ndC x1) 67 true)
 have b25 := (hset_ne H4 n (.cells (ndC x1) 67 true) (x := bs) (by omega)).trans b2
 have ho5 : FI (hset H4 n (.cells (ndC x1) 67 true)) 0 (f 3) own' := by
  obtain ⟨z, e1, e2, e3⟩ := ho
  exact ⟨z, e1, e2, (hset_ne _ _ _ (by intro e; subst e; rw [b1] at e3; injection e3 with _ q _; exact nd_ne_int q)).trans e3⟩
 have hn4 : n < n4 := by omega
 repeat refine qqn rfl ?_
 (refine qqr ?_; simp only [SS, qx27, simprocAttr, -Int.reduceOfNat, -List.reduceReplicate, f9, b2, st_3, h1', ff_42])
 repeat refine qqn rfl ?_
 refine qqm rfl ?_
 repeat refine qqn rfl ?_
 (refine qqr ?_; simp only [SS, qx27, simprocAttr, -Int.reduceOfNat, -List.reduceReplicate, f6, f9, b1, b2, st_3, h1', st_from, st_from2, st_len, hx1, ndC_cells, ndC_one, ndC_len, sp3', ff_42])
 generalize hset H4 n (.cells (ndC x1) 67 true) = H5 at *
 have hw5 := k5.wf hw
 have md5 := mdn.mono hw k5
 have hf1 := first_gives (x := x1) hw5 md5.f md5.mr hwl sg v2 v3
 rw [hwy] at hf1
 repeat (first | refine qqm rfl ?_ | ((first | refine qqr ?_ | refine qqt ?_); simp only [SS, qx27, simprocAttr, -Int.reduceOfNat, -List.reduceReplicate, f0, f6, b15, ndC_all, ndC_len, ff_42]))
 refine AtCall.by hf1 ?_
 rintro v n6 H6 k6 hwl6
 obtain ⟨zw, p, rfl, hzw0, hzw, hp⟩ := hwl6.one
 have hw6 := k6.wf hw5
 have b26 := (k6.keep bs hbs2).trans b25
 have h01 : ((0 : Int) < ((1 : Nat) : Int)) = True := by simp
 simp only [SS, qx27, simprocAttr, -Int.reduceOfNat, -List.reduceReplicate, hzw, wy_all, wy_len, f9, b26, st_3, h01, ff_42]
 refine AtCall.by (by_gives2 (x := x1) hw0 md hwl sg (hk.trans (k5.trans k6)) hym hp (.inr (ho5.mono hw5 k6)) hbb) ?_
 rintro v n7 H7 k7 ho7
 have hw7 := k7.wf hw6
 have hle6 := k6.le
 have hle7 := k7.le
 have b27 := (k7.keep bs (by omega)).trans b26
 have b17 := ((k6.trans k7).keep n hn4).trans b15
 have k47 := k5.trans (k6.trans k7)
 have kA := Kp.new n7 H7 (.cells (stC (par x')) 74 true)
 have hlk := (hmc.mono hw (k47.trans kA)).look (List.mem_of_getElem? hxi) false
 have e6 : ndV x1 = .agg (ndC x1).toArray := rfl
 rw [e6] at hlk
 simp only [stV, if_false, Bool.false_eq_true] at hlk
 have hbA := hset_at H7 n7 (.cells (stC (par x')) 74 true)
 simp only [SS, qx27, simprocAttr, -Int.reduceOfNat, -List.reduceReplicate, aop_look, ff_42]
 repeat refine qqn rfl ?_
 (refine qqr ?_; simp only [SS, qx27, simprocAttr, -Int.reduceOfNat, -List.reduceReplicate, f9, b27, st_all, st_all2, st_len, ff_42])
 repeat refine qqn rfl ?_
 (refine qqr ?_; simp only [SS, qx27, simprocAttr, -Int.reduceOfNat, -List.reduceReplicate, f9, st_cells, st_one, st_len, hset_at, sp4, ff_42])
 repeat refine qqn rfl ?_
 have b1A := (kA.keep n (by omega)).trans b17
 generalize hset H7 n7 (.cells (stC (par x')) 74 true) = H8 at *
 have kB := (k47.trans kA).set (x := n7) (.cells (stC (par x1)) 74 true) (by omega) (by omega)
 (refine qqr ?_; simp only [SS, qx27, simprocAttr, -Int.reduceOfNat, -List.reduceReplicate, f1, f6, b1A, hbA, ndC_all, ndC_len, aop_look, hlk, st_cells, st_one, st_len, sp4', ff_42])
 repeat refine qqn rfl ?_
 refine ih i hij _ ?_
 refine ⟨i, n7, x1, _, hxi, kB, (hset_ne _ _ _ (by omega)).trans b1A, by omega, by show n7 < n7 + 1; omega, hset_at _ _ _, ?_, hbig, fun out ho' => hup _ (.step h1 (by rw [hx1]; exact hwy) (by rw [hx1]; exact ho')), f0, f1, f6, rfl, rfl⟩
 obtain ⟨z, e1, e2, e3⟩ := ho7
 have hz7 := live_m hw7 (z := z) (by rw [e3]; intro e; cases e)
 refine ⟨z, ?_, Nat.zero_le _, (hset_ne _ _ _ (by omega)).trans ((kA.keep z hz7).trans e3)⟩
 simp only [packed, fset_apply, Nat.reduceEqDiff, ↓reduceIte, List.getD_cons_zero, List.getD_cons_succ, ff_42]
 exact e1
end
end Go.Proofs.Ytemkglelfeidhaa
