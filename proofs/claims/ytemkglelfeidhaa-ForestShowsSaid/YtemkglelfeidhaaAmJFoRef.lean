/- A part of a proof. Its conditions: none. -/
import Derived.Test.YtemkglelfeidhaaAmJFoSums
import Derived.Test.YtemkglelfeidhaaAmJLfNullable
import Derived.Test.YtemkglelfeidhaaAmC
import Derived.Test.YtemkglelfeidhaaAmD
set_option linter.all false
namespace Go.Proofs.Ytemkglelfeidhaa
open Go.AM Go.AM.Fo Go.RowKit
set_option maxRecDepth 100000
theorem rs_new {H : Heap} {z : Nat} {l : List Int} (h : H z = .cells (l.map (Value.int .i64)) 3 true) : RS (Value.int .i64) H (some ⟨z, 0, none⟩) l :=
 .inr ⟨z, 0, _, _, _, rfl, h, by simp, fun i y e => by rw [Nat.zero_add, List.getElem?_map, e]; rfl⟩
theorem FI.rs {H : Heap} {N : Nat} {v : Value} {l : List Int} (h : FI H N v l) : ∃ z, v = .slice (some ⟨z, 0, none⟩) l.length l.length ∧ RS (Value.int .i64) H (some ⟨z, 0, none⟩) l := by
 obtain ⟨z, h1, _, h3⟩ := h
 exact ⟨z, h1, rs_new h3⟩
set_option maxHeartbeats 16000000 in
theorem alive_gives {n : Nat} {H : Heap} (hw : WF n H) : GivesD Try.prog 7 [] n H fun v _ _ => v = .bool true := by
 refine GivesD.of orders ok7 (Nat.le_of_ble_eq_true rfl) ?_
 have r5 : ∀ z, rep 5 z = z ++ (z ++ (z ++ (z ++ (z ++ [])))) := fun _ => rfl
 have r3 : ∀ z, rep 3 z = z ++ (z ++ (z ++ [])) := fun _ => rfl
 have ss := sums_s
 repeat (first | refine qdm rfl ?_ | ((first | refine qdr ?_ | refine qdt ?_); simp only [SS, qx11, y3, vun, simprocAttr, ff_7]))
 refine AtCallY.by sums_gives ?_
 rintro v n1 H1 k1 hg1
 have hw1 := k1.wf hw
 obtain ⟨pt, pv, pr, rfl, _, _, hr1⟩ := hg1
 simp only [SS, qx11, y3, vun, simprocAttr, r5, r3, hset_at, List.length_cons, List.length_nil, List.set_cons_zero, List.set_cons_succ, List.cons_append, List.nil_append, List.append_nil, ff_7]
 have k2 := Kp.new n1 H1 (.cells [.int .i64 1, .int .i64 0, .int .i64 1, .int .i64 0, .int .i64 1] 3 true)
 have hq2 : RS (Value.int .i64) (hset H1 n1 (.cells [.int .i64 1, .int .i64 0, .int .i64 1, .int .i64 0, .int .i64 1] 3 true)) (some ⟨n1, 0, none⟩) [1, 0, 1, 0, 1] := rs_new (hset_at _ _ _)
 generalize hset H1 n1 (.cells [.int .i64 1, .int .i64 0, .int .i64 1, .int .i64 0, .int .i64 1] 3 true) = H2 at *
 have hw2 := k2.wf hw1
 have hnew := new_gives (w := [1, 0, 1, 0, 1]) (pt := pt) (pv := pv) (g := sumsG) hw2 (hr1.mono hw1 k2) hq2 sums_sgm (by unfold maxL; simp)
 refine AtCallY.byD hnew ?_
 rintro v n3 H3 k3 hv
 have hw3 := k3.wf hw2
 rcases hv with ⟨hl, _⟩ | ⟨hl, fo, m, pw, ks, rd, rfl, md⟩
 ·simp at hl
 simp only [SS, qx11, y3, vun, simprocAttr, ff_7]
 repeat (first | refine qdm rfl ?_ | ((first | refine qdr ?_ | refine qdt ?_); simp only [SS, qx11, y3, vun, simprocAttr, ff_7]))
 try simp only [SS, qx11, y3, vun, simprocAttr, ff_7]
 repeat (first | refine qdm rfl ?_ | ((first | refine qdr ?_ | refine qdt ?_); simp only [SS, qx11, y3, vun, simprocAttr, ff_7]))
 refine AtCallY.by (one_gives hw3 md hl sums_sgm (Kp.refl _ _)) ?_
 rintro v n4 H4 k4 hv
 have hw4 := k4.wf hw3
 obtain ⟨d1, d2⟩ := ss.two
 rcases hv with ⟨h0, _⟩ | ⟨h0, u, rfl, hu⟩
 ·exact absurd d1 (tn_none md.ok sums_sgm.ing h0 _)
 have hpl := tn_pl md.ok sums_sgm.ing h0
 generalize pl sumsG [1, 0, 1, 0, 1] rd (root [1, 0, 1, 0, 1]) = od at *
 simp only [SS, qx11, y3, vun, simprocAttr, ff_7]
 repeat (first | refine qdm rfl ?_ | ((first | refine qdr ?_ | refine qdt ?_); simp only [SS, qx11, y3, vun, simprocAttr, ff_7]))
 refine AtCallY.by (two_gives hw3 md hl sums_sgm k4) ?_
 rintro v n5 H5 k5 hv
 have hw5 := k5.wf hw4
 rcases hv with ⟨a, b, oa, ob, rfl, hne, ha, hb, hfa, hfb, _⟩ | ⟨_, huq⟩
 case inr => have := huq _ _ d1 d2; cases this
 have la : oa.length = 5 := by have := (ss.size ha).1; simpa [negs] using this
 have lb : ob.length = 5 := by have := (ss.size hb).1; simpa [negs] using this
 have ld : od.length = 5 := by have := (ss.size hpl).1; simpa [negs] using this
 simp only [SS, qx11, y3, vun, simprocAttr, ff_7]
 repeat (first | refine qdm rfl ?_ | ((first | refine qdr ?_ | refine qdt ?_); simp only [SS, qx11, y3, vun, simprocAttr, ff_7]))
 refine AtCallY.by sums_gives ?_
 rintro v n6 H6 k6 hg6
 have hw6 := k6.wf hw5
 simp only [SS, qx11, y3, vun, simprocAttr, r5, r3, hset_at, List.length_cons, List.length_nil, List.set_cons_zero, List.set_cons_succ, List.cons_append, List.nil_append, List.append_nil, ff_7]
 have k7 := Kp.new n6 H6 (.cells [.int .i64 0] 3 true)
 have hq7 : RS (Value.int .i64) (hset H6 n6 (.cells [.int .i64 0] 3 true)) (some ⟨n6, 0, none⟩) [0] := rs_new (hset_at _ _ _)
 generalize hset H6 n6 (.cells [.int .i64 0] 3 true) = H7 at *
 have hw7 := k7.wf hw6
 obtain ⟨zu, rfl, hru⟩ := (hu.mono hw4 (k5.trans (k6.trans k7))).rs
 obtain ⟨za, rfl, hra⟩ := (hfa.mono hw5 (k6.trans k7)).rs
 obtain ⟨zb, rfl, hrb⟩ := (hfb.mono hw5 (k6.trans k7)).rs
 have hy : yieldS sumsG [0] od = ([1, 0, 1, 0, 1], 0) := dv_yield sums_sgm.ing hpl (by omega)
 have hyield := yield_gives (form := [0]) (rules := od) hw7 (hg6.mono hw6 k7) sums_wg sums_ok hq7.ra hru.ra (by rw [ld]; decide) (by simp)
 rw [hy] at hyield
 refine AtCallY.by hyield ?_
 rintro v n8 H8 k8 ⟨p', rfl, _⟩
 have hw8 := k8.wf hw7
 have la' : ((oa.length : Int) = 5) = True := by simp only [eq_iff_iff, iff_true]; omega
 have lb' : ((ob.length : Int) = 5) = True := by simp only [eq_iff_iff, iff_true]; omega
 have lw' : (((5 : Nat) : Int) = 5) = True := by simp
 have c00 : (((0 : Nat) : Int) = 0) = True := by simp
 simp only [SS, qx11, y3, vun, simprocAttr, ff_7]
 repeat refine qdn rfl ?_
 (refine qdr ?_; simp only [SS, qx11, y3, vun, simprocAttr, la', lb', lw', c00, decide_true, ff_7])
 refine AtCallY.by (same_gives (hra.mono hw7 k8).ra (hrb.mono hw7 k8).ra (by unfold maxL; omega) (by unfold maxL; omega)) ?_
 rintro v n9 H9 _ ⟨rfl, rfl, rfl⟩
 have hsame : same oa ob = false := by rw [Bool.eq_false_iff]; exact fun e => hne (same_iff3.1 e)
 simp only [SS, qx11, y3, vun, simprocAttr, hsame, Bool.not_false, ff_7]
 refine AtCallY.by sums_gives ?_
 rintro v n10 H10 k10 hg10
 have hw10 := k10.wf hw8
 obtain ⟨pt, pv, pr, rfl, _, _, hr10⟩ := hg10
 simp only [SS, qx11, y3, vun, simprocAttr, r5, r3, hset_at, List.length_cons, List.length_nil, List.set_cons_zero, List.set_cons_succ, List.cons_append, List.nil_append, List.append_nil, ff_7]
 have k11 := Kp.new n10 H10 (.cells [.int .i64 1, .int .i64 0, .int .i64 1] 3 true)
 have hq11 : RS (Value.int .i64) (hset H10 n10 (.cells [.int .i64 1, .int .i64 0, .int .i64 1] 3 true)) (some ⟨n10, 0, none⟩) [1, 0, 1] := rs_new (hset_at _ _ _)
 generalize hset H10 n10 (.cells [.int .i64 1, .int .i64 0, .int .i64 1] 3 true) = H11 at *
 have hw11 := k11.wf hw10
 have ht3 := trees_gives (w := [1, 0, 1]) (pt := pt) (pv := pv) (g := sumsG) hw11 (hr10.mono hw10 k11) hq11 sums_sgm (by unfold maxL; simp)
 refine AtCallY.byD ht3 ?_
 rintro v n12 H12 k12 ⟨t, rfl, _, ht⟩
 have hw12 := k12.wf hw11
 obtain rfl := ss.n3 sums_sgm.ing (ht (by simp))
 have c11 : (((1 : Nat) : Int) = 1) = True := by simp
 simp only [SS, qx11, y3, vun, simprocAttr, c11, decide_true, ff_7]
 refine AtCallY.by sums_gives ?_
 rintro v n13 H13 k13 hg13
 have hw13 := k13.wf hw12
 obtain ⟨pt2, pv2, pr2, rfl, _, _, hr13⟩ := hg13
 simp only [SS, qx11, y3, vun, simprocAttr, r5, r3, hset_at, List.length_cons, List.length_nil, List.set_cons_zero, List.set_cons_succ, List.cons_append, List.nil_append, List.append_nil, ff_7]
 have k14 := Kp.new n13 H13 (.cells [.int .i64 0] 3 true)
 have hq14 : RS (Value.int .i64) (hset H13 n13 (.cells [.int .i64 0] 3 true)) (some ⟨n13, 0, none⟩) [0] := rs_new (hset_at _ _ _)
 generalize hset H13 n13 (.cells [.int .i64 0] 3 true) = H14 at *
 have hw14 := k14.wf hw13
 have ht0 := trees_gives (w := [0]) (pt := pt2) (pv := pv2) (g := sumsG) hw14 (hr13.mono hw13 k14) hq14 sums_sgm (by unfold maxL; simp)
 refine AtCallY.byD ht0 ?_
 rintro v n15 H15 k15 ⟨t, rfl, _, ht⟩
 have hw15 := k15.wf hw14
 obtain rfl := ss.n0 sums_sgm.ing (ht (by simp))
 simp only [SS, qx11, y3, vun, simprocAttr, c00, decide_true, ff_7]
 refine AtCallY.by sums_gives ?_
 rintro v n16 H16 k16 hg16
 have hw16 := k16.wf hw15
 obtain ⟨pt3, pv3, pr3, rfl, _, _, hr16⟩ := hg16
 simp only [SS, qx11, y3, vun, simprocAttr, r5, r3, hset_at, List.length_cons, List.length_nil, List.set_cons_zero, List.set_cons_succ, List.cons_append, List.nil_append, List.append_nil, ff_7]
 have k17 := Kp.new n16 H16 (.cells [.int .i64 1, .int .i64 0, .int .i64 1, .int .i64 0, .int .i64 1] 3 true)
 have hq17 : RS (Value.int .i64) (hset H16 n16 (.cells [.int .i64 1, .int .i64 0, .int .i64 1, .int .i64 0, .int .i64 1] 3 true)) (some ⟨n16, 0, none⟩) [1, 0, 1, 0, 1] := rs_new (hset_at _ _ _)
 generalize hset H16 n16 (.cells [.int .i64 1, .int .i64 0, .int .i64 1, .int .i64 0, .int .i64 1] 3 true) = H17 at *
 have hw17 := k17.wf hw16
 have ht5 := trees_gives (w := [1, 0, 1, 0, 1]) (pt := pt3) (pv := pv3) (g := sumsG) hw17 (hr16.mono hw16 k17) hq17 sums_sgm (by unfold maxL; simp)
 refine AtCallY.byD ht5 ?_
 rintro v n18 H18 k18 ⟨t, rfl, _, ht⟩
 obtain rfl := ss.n5 (ht (by simp))
 have c22 : (((2 : Nat) : Int) = 2) = True := by simp
 simp only [SS, qx11, y3, vun, simprocAttr, c22, decide_true, ff_7]
 repeat (first | refine qdm rfl ?_ | ((first | refine qdr ?_ | refine qdt ?_); simp only [SS, qx11, y3, vun, simprocAttr, ff_7]))
 (first | refine WKD.retNil ⟨Or.inr rfl, _, rfl, ?_, ?_⟩ | refine WKD.skipNil ⟨Or.inl rfl, _, rfl, ?_, ?_⟩)
 ·have e1 := k1.le
  have e2 := k2.le
  have e3 := k3.le
  have e4 := k4.le
  have e5 := k5.le
  have e6 := k6.le
  have e7 := k7.le
  have e8 := k8.le
  have e10 := k10.le
  have e11 := k11.le
  have e12 := k12.le
  have e13 := k13.le
  have e14 := k14.le
  have e15 := k15.le
  have e16 := k16.le
  have e17 := k17.le
  exact fun z hz => (k18.keep z (by omega)).trans ((k17.keep z (by omega)).trans ((k16.keep z (by omega)).trans ((k15.keep z (by omega)).trans ((k14.keep z (by omega)).trans ((k13.keep z (by omega)).trans ((k12.keep z (by omega)).trans ((k11.keep z (by omega)).trans ((k10.keep z (by omega)).trans ((k8.keep z (by omega)).trans ((k7.keep z (by omega)).trans ((k6.keep z (by omega)).trans ((k5.keep z (by omega)).trans ((k4.keep z (by omega)).trans ((k3.keep z (by omega)).trans ((k2.keep z (by omega)).trans (k1.keep z hz))))))))))))))))
 ·simp only [packed, fset_apply, Nat.reduceEqDiff, ↓reduceIte, List.getD_cons_zero, List.getD_cons_succ, ff_7]
end Go.Proofs.Ytemkglelfeidhaa

namespace Go.Proofs.Ytemkglelfeidhaa
open Go.AM Go.AM.Fo Go.RowKit
set_option maxRecDepth 100000
end Go.Proofs.Ytemkglelfeidhaa

namespace Go.Proofs.Ytemkglelfeidhaa
open Go.AM
set_option maxRecDepth 100000
def firstS (l : List Int) : Int := if l.dropWhile neg = [] then -1 else (l.takeWhile neg).length
theorem first7_gives {p : Option Addr} {l : List Int} {n : Nat} {H : Heap} (hp : RA (Value.int .i64) H p l) (hl : l.length < 9223372036854775807) :
  Gives Try.prog 30 [.slice p l.length l.length] n H fun v n' H' => v = .int .i64 (firstS l) ∧ n' = n ∧ H' = H := by
 refine Gives.of orders ok30 (Nat.le_of_ble_eq_true rfl) ?_
 repeat (first | refine qqm rfl ?_ | ((first | refine qqr ?_ | refine qqt ?_); simp only [SS, qx20, simprocAttr, ff_30]))
 refine WK.loop (fun k s => ∃ j, s.n = n ∧ s.H = H ∧ s.f 0 = .slice p l.length l.length ∧ s.f 3 = .int .i64 (j : Nat) ∧ j ≤ l.length ∧ k = l.length - j ∧ ∀ s ∈ l.take j, s < 0) l.length ?_ ?_
 ·exact ⟨0, rfl, rfl, rfl, rfl, Nat.zero_le _, rfl, by simp⟩
 rintro kk ⟨f, n', H'⟩ ⟨j, rfl, rfl, f0, f3, hj, rfl, hn⟩ ih
 simp only at f0 f3 ih hp
 by_cases hjl : j < l.length
 ·obtain ⟨z, k, cs, ty, own, rfl, hz, e⟩ := hp.at hjl
  by_cases hx : 0 ≤ l[j]
  ·repeat (first | refine qqm rfl ?_ | ((first | refine qqr ?_ | refine qqt ?_); simp only [SS, qx20, simprocAttr, f0, f3, hjl, hz, e, hx, ff_30]))
   (first | refine WK.retNil ⟨Or.inr rfl, _, rfl, ?_, ?_⟩ | refine WK.skipNil ⟨Or.inl rfl, _, rfl, ?_, ?_⟩)
   ·exact fun _ _ => rfl
   ·simp only [packed, fset_apply, Nat.reduceEqDiff, ↓reduceIte, List.getD_cons_zero, List.getD_cons_succ, ff_30]
    obtain ⟨h1, h2⟩ := tw_at hjl hn hx
    refine ⟨?_, trivial, trivial⟩
    unfold firstS
    rw [h2, h1, if_neg (List.cons_ne_nil _ _), List.length_take, Nat.min_eq_left (Nat.le_of_lt hjl)]
  ·repeat (first | refine qqm rfl ?_ | ((first | refine qqr ?_ | refine qqt ?_); simp only [SS, qx20, simprocAttr, f0, f3, hjl, hz, e, hx, ff_30]))
   refine ih (l.length - (j + 1)) (by omega) _ ⟨j + 1, rfl, rfl, f0, ?_, hjl, rfl, ?_⟩
   ·simp only [packed, fset_apply, Nat.reduceEqDiff, ↓reduceIte, List.getD_cons_zero, List.getD_cons_succ, f3, ff_30]
    rw [wrap_in (by omega) (by omega)]; rfl
   ·intro s hs
    rw [List.take_succ_eq_append_getElem hjl, List.mem_append] at hs
    rcases hs with hs | hs
    ·exact hn s hs
    ·simp at hs; subst hs; omega
 ·repeat (first | refine qqm rfl ?_ | ((first | refine qqr ?_ | refine qqt ?_); simp only [SS, qx20, simprocAttr, f0, f3, hjl, ff_30]))
  (first | refine WK.retNil ⟨Or.inr rfl, _, rfl, ?_, ?_⟩ | refine WK.skipNil ⟨Or.inl rfl, _, rfl, ?_, ?_⟩)
  ·exact fun _ _ => rfl
  ·simp only [packed, fset_apply, Nat.reduceEqDiff, ↓reduceIte, List.getD_cons_zero, List.getD_cons_succ, ff_30]
   rw [List.take_of_length_le (by omega)] at hn
   obtain ⟨h1, h2⟩ := tw_all hn
   refine ⟨?_, trivial, trivial⟩
   unfold firstS
   rw [h2, if_pos rfl]
def outAt (form right : List Int) (a k : Nat) : List Int := if k ≤ a then form.take k else form.take a ++ right ++ (form.drop (a + 1)).take (k - a - 1)
theorem outAt_len {form right : List Int} {a k : Nat} (hk : k ≤ form.length) : (outAt form right a k).length ≤ k + right.length := by
 unfold outAt
 split
 ·simp; omega
 ·simp only [List.length_append, List.length_take, List.length_drop]
  omega
theorem outAt_copy {form right : List Int} {a k : Nat} (hk : k < form.length) (hne : k ≠ a) (ha : a < form.length) : outAt form right a (k + 1) = outAt form right a k ++ [form[k]] := by
 unfold outAt
 by_cases h : k < a
 ·rw [if_pos (by omega), if_pos (by omega), List.take_succ_eq_append_getElem hk]
 ·rw [if_neg (by omega), if_neg (by omega)]
  have e : k + 1 - a - 1 = (k - a - 1) + 1 := by omega
  have hd : k - a - 1 < (form.drop (a + 1)).length := by rw [List.length_drop]; omega
  rw [e, List.take_succ_eq_append_getElem hd, ← List.append_assoc]
  congr 2
  rw [List.getElem_drop]
  congr 1
  omega
theorem outAt_right {form right : List Int} {a : Nat} (ha : a < form.length) : outAt form right a (a + 1) = outAt form right a a ++ right := by
 unfold outAt
 rw [if_neg (by omega), if_pos (Nat.le_refl _)]
 simp
theorem outAt_all {form right : List Int} {a : Nat} (ha : a < form.length) : outAt form right a form.length = form.take a ++ right ++ form.drop (a + 1) := by
 unfold outAt
 rw [if_neg (by omega), List.take_of_length_le (l := form.drop (a + 1)) (by rw [List.length_drop]; omega)]
set_option maxHeartbeats 8000000 in
theorem step7_gives {v : Value} {g : Gram} {p : Option Addr} {form : List Int} {r : Int} {n : Nat} {H : Heap} (hw : WF n H) (hg : RG H v g) (wg : WG g) (ok : RightOK g) (hp : RA (Value.int .i64) H p form) (hl : form.length ≤ 2147483648) :
    Gives Try.prog 49 [v, .slice p form.length form.length, .int .i64 r] n H fun v _ H' => ∃ p', v = .tuple #[.slice p' (stepS g form r).1.length (stepS g form r).1.length, .int .i64 ((stepS g form r).2 : Nat)] ∧ RS (Value.int .i64) H' p' (stepS g form r).1 := by
  have hg0 := hg
  obtain ⟨pt, pv, pr, rfl, ht, hv, hr⟩ := hg
  refine Gives.of orders ok49 (Nat.le_of_ble_eq_true rfl) ?_
  have hk := Kp.new n H (.cells (gcells pt pv pr g) 25 true)
  have hb := hset_at H n (.cells (gcells pt pv pr g) 25 true)
  have hrl := ok.rules
  repeat refine qqn rfl ?_
  (refine qqr ?_; simp only [SS, qx24, simprocAttr, box_cells, box_one, ff_49])
  have hw1 := hk.wf hw
  replace hp := hp.mono hw hk
  replace hr := hr.mono hw hk
  generalize hset H n (.cells (gcells pt pv pr g) 25 true) = H1 at *
  repeat refine qqn rfl ?_
  (refine qqr ?_; simp only [SS, qx24, simprocAttr, ff_49])
  refine AtCall.by (first7_gives hp (by omega)) ?_
  rintro v n2 H2 hk2 ⟨rfl, rfl, rfl⟩
  simp only [SS, qx24, simprocAttr, ff_49]
  repeat refine qqn rfl ?_
  have err : ∀ e : Nat, stepS g form r = ([], e) → ∀ f : Fr, f 6 = .slice none 0 0 → f 7 = .int .i64 e → Fin Try.prog Try.f49.results.toList n H (fun v _ H' => ∃ p', v = .tuple #[.slice p' (stepS g form r).1.length (stepS g form r).1.length, .int .i64 ((stepS g form r).2 : Nat)] ∧ RS (Value.int .i64) H' p' (stepS g form r).1) .ret ⟨f, n + 1, H2⟩ :=
    fun e he f h6 h7 => ⟨Or.inr rfl, [f 6, f 7], rfl, hk.keep, none, by rw [he, h6, h7]; rfl, by rw [he]; exact .inl ⟨rfl, rfl⟩⟩
  by_cases hr0 : r < 0
  · repeat (first | refine qqm rfl ?_ | ((first | refine qqr ?_ | refine qqt ?_); simp only [SS, qx24, simprocAttr, hr0, hb, gc_2, ff_49]))
    exact WK.retNil (err 12 (by unfold stepS; rw [if_pos (.inl hr0)]) _ rfl rfl)
  by_cases hr1 : (g.rules.length : Int) ≤ r
  · repeat (first | refine qqm rfl ?_ | ((first | refine qqr ?_ | refine qqt ?_); simp only [SS, qx24, simprocAttr, hr0, hr1, hb, gc_2, ff_49]))
    exact WK.retNil (err 12 (by unfold stepS; rw [if_pos (.inr hr1)]) _ rfl rfl)
  obtain ⟨i, rfl⟩ : ∃ i : Nat, r = i := ⟨r.toNat, by omega⟩
  have hi : i < g.rules.length := by omega
  have hi' : ¬ g.rules.length ≤ i := by omega
  have hneg : ((i : Int) < 0) = False := by simp
  by_cases hd : form.dropWhile neg = []
  · have hf : firstS form = -1 := by unfold firstS; rw [if_pos hd]
    have hf0 : ((-1 : Int) < 0) = True := by simp
    repeat (first | refine qqm rfl ?_ | ((first | refine qqr ?_ | refine qqt ?_); simp only [SS, qx24, simprocAttr, hneg, hi', hb, gc_2, hf, hf0, ff_49]))
    exact WK.retNil (err 13 (by unfold stepS; rw [if_neg (by omega), hd]) _ rfl rfl)
  · obtain ⟨a, ha⟩ : ∃ a, (form.takeWhile neg).length = a := ⟨_, rfl⟩
    have hf : firstS form = (a : Nat) := by unfold firstS; rw [if_neg hd, ha]
    have haf : a < form.length := by
      have h1 : form.takeWhile neg ++ form.dropWhile neg = form := List.takeWhile_append_dropWhile
      have h2 := congrArg List.length h1
      rw [List.length_append, ha] at h2
      have h3 : (form.dropWhile neg).length ≠ 0 := by simpa using hd
      omega
    have hfa : ((a : Int) < 0) = False := by simp
    have key : ∀ (t d : List Int), t ++ d = form → t.length = a → t = form.take a ∧ d = form.drop a := by
      rintro t d rfl rfl
      simp
    obtain ⟨htw, hdw⟩ := key _ _ List.takeWhile_append_dropWhile ha
    rw [List.drop_eq_getElem_cons haf] at hdw
    have hst : stepS g form (i : Nat) = if g.rules[i].left = form[a] then (form.take a ++ g.rules[i].right ++ form.drop (a + 1), 0) else ([], 14) := by
      unfold stepS
      rw [if_neg (by omega), hdw, htw]
      simp only [Int.toNat_natCast, List.getElem?_eq_getElem hi]
    obtain ⟨z, kz, cs, ty, own, q, e0, hz, d0, d1, d2, hq⟩ := hr.atS hi
    subst e0
    obtain ⟨x, kx, ds, tx, ox, rfl, hx, ex⟩ := hp.at haf
    by_cases hle : g.rules[i].left = form[a]
    · have hrr := (ok.rule i hi).len
      rw [if_pos hle] at hst
      repeat (first | refine qqm rfl ?_ | ((first | refine qqr ?_ | refine qqt ?_); simp only [SS, qx24, simprocAttr, hneg, hi, hi', hb, gc_2, hf, hfa, hz, d0, haf, hx, ex, hle, ebs_26_0, ff_49]))
      refine WK.loop (fun k s => ∃ (j Y : Nat), Kp (n + 1) H2 s.n s.H ∧ s.f 1 = .slice (some ⟨x, kx, none⟩) form.length form.length ∧ s.f 2 = .int .i64 (i : Nat) ∧ s.f 3 = .pointer (some ⟨n, 0, none⟩) ∧ s.f 8 = .int .i64 (a : Nat) ∧ s.f 9 = .slice (some ⟨Y, 0, none⟩) (outAt form g.rules[i].right a j).length (outAt form g.rules[i].right a j).length ∧ n + 1 ≤ Y ∧ s.H Y = .cells ((outAt form g.rules[i].right a j).map (Value.int .i64)) 3 true ∧
          s.f 10 = .int .i64 (j : Nat) ∧ j ≤ form.length ∧ k = form.length - j) form.length ?_ ?_
      · refine ⟨0, n + 1, Kp.new _ _ _, rfl, rfl, rfl, rfl, ?_, Nat.le_refl _, ?_, rfl, Nat.zero_le _, rfl⟩
        · simp only [packed, fset_apply, Nat.reduceEqDiff, ↓reduceIte, List.getD_cons_zero, List.getD_cons_succ, ff_49]
          rfl
        · exact hset_at _ _ _
      rintro kk ⟨f, n4, H4⟩ ⟨j, Y, kp, f1, f2, f3, f8, f9, hY, hy, f10, hj, rfl⟩ ih
      simp only at f1 f2 f3 f8 f9 f10 ih kp hy
      have hw4 := kp.wf hw1
      have hYl := live_lt hw4 (live_of hy)
      by_cases hjl : j < form.length
      · have hjw : IntKind.i64.wrap ((j : Int) + 1) = ((j + 1 : Nat) : Int) := by rw [wrap_in (by omega) (by omega)]; rfl
        have hol := outAt_len (right := g.rules[i].right) (a := a) (Nat.le_of_lt hjl)
        have a3 : ((outAt form g.rules[i].right a j).map (Value.int .i64)).take (outAt form g.rules[i].right a j).length = (outAt form g.rules[i].right a j).map (Value.int .i64) := List.take_of_length_le (by simp)
        by_cases hja : j = a
        · subst hja
          have b4 := (kp.keep n (by omega)).trans hb
          have zl := live_lt hw1 (live_of hz)
          have z4 := (kp.keep z zl).trans hz
          have b3 : (outAt form g.rules[i].right j j).length + g.rules[i].right.length ≤ bigN := by unfold bigN; omega
          rcases hq with ⟨rfl, hq⟩ | ⟨w, kw, es, tw, ow, rfl, hw', hwl, hwe⟩
          · have b3' : (outAt form g.rules[i].right j j).length ≤ bigN := by omega
            rw [hq] at d1
            have hr0 : outAt form g.rules[i].right j (j + 1) = outAt form g.rules[i].right j j := by rw [outAt_right haf, hq, List.append_nil]
            repeat (first | refine qqm rfl ?_ | ((first | refine qqr ?_ | refine qqt ?_); simp only [SS, qx24, simprocAttr, f1, f2, f3, f8, f9, f10, hjl, b4, gc_2, z4, hi, d1, hy, a3, b3', List.length_map, List.drop_zero, List.contains_nil, ff_49]))
            refine ih (form.length - (j + 1)) (by omega) _ ⟨j + 1, n4, (kp.set _ hY hYl).trans (Kp.new n4 _ _), f1, f2, f3, f8, ?_, kp.le, ?_, ?_, hjl, rfl⟩
            · simp only [packed, fset_apply, Nat.reduceEqDiff, ↓reduceIte, List.getD_cons_zero, List.getD_cons_succ, hr0, ff_49]
            · rw [hr0]
              exact hset_at _ _ _
            · simp only [packed, fset_apply, Nat.reduceEqDiff, ↓reduceIte, List.getD_cons_zero, List.getD_cons_succ, f10, hjw, ff_49]
          · have w4 := (kp.keep w (live_lt hw1 (live_of hw'))).trans hw'
            have hcs := RS.cells hwl hwe
            have hwY : [w].contains Y = false := by have := live_lt hw1 (live_of hw'); simp; omega
            repeat (first | refine qqm rfl ?_ | ((first | refine qqr ?_ | refine qqt ?_); simp only [SS, qx24, simprocAttr, f1, f2, f3, f8, f9, f10, hjl, b4, gc_2, z4, hi, d1, hy, a3, b3, w4, hcs, hwl, hwY, List.length_map, List.drop_zero, ff_49]))
            refine ih (form.length - (j + 1)) (by omega) _ ⟨j + 1, n4, (kp.set _ hY hYl).trans (Kp.new n4 _ _), f1, f2, f3, f8, ?_, kp.le, ?_, ?_, hjl, rfl⟩
            · simp only [packed, fset_apply, Nat.reduceEqDiff, ↓reduceIte, List.getD_cons_zero, List.getD_cons_succ, ff_49]
              rw [outAt_right haf, List.length_append]
            · rw [outAt_right haf, List.map_append]
              exact hset_at _ _ _
            · simp only [packed, fset_apply, Nat.reduceEqDiff, ↓reduceIte, List.getD_cons_zero, List.getD_cons_succ, f10, hjw, ff_49]
        · obtain ⟨x', kx', ds', tx', ox', e0', hx', ex'⟩ := hp.at hjl
          cases e0'
          rw [hx] at hx'
          cases hx'
          have x4 := (kp.keep x (live_lt hw1 (live_of hx))).trans hx
          have hja' : ((j : Int) = a) = False := by simp; omega
          have c1 : ∀ o, hset H4 n4 o Y = _ := fun o => (hset_ne _ _ _ (by omega)).trans hy
          have c2 : [n4].contains Y = false := by simp; omega
          have c3 : (outAt form g.rules[i].right a j).length + 1 ≤ bigN := by unfold bigN; omega
          repeat (first | refine qqm rfl ?_ | ((first | refine qqr ?_ | refine qqt ?_); simp only [SS, qx24, simprocAttr, f1, f8, f9, f10, hjl, hja, hja', x4, ex', c1, c2, c3, a3, ebs_26_1, List.length_map, List.drop_zero, ff_49]))
          refine ih (form.length - (j + 1)) (by omega) _ ⟨j + 1, n4 + 1, ((kp.trans (Kp.new n4 H4 _)).set _ hY (by omega)).trans (Kp.new (n4 + 1) _ _), f1, f2, f3, f8, ?_, by have := kp.le; omega, ?_, ?_, hjl, rfl⟩
          · simp only [packed, fset_apply, Nat.reduceEqDiff, ↓reduceIte, List.getD_cons_zero, List.getD_cons_succ, ff_49]
            rw [outAt_copy hjl hja haf, List.length_append]
            rfl
          · rw [outAt_copy hjl hja haf, List.map_append]
            exact hset_at _ _ _
          · simp only [packed, fset_apply, Nat.reduceEqDiff, ↓reduceIte, List.getD_cons_zero, List.getD_cons_succ, f10, hjw, ff_49]
      · have hje : j = form.length := by omega
        subst hje
        repeat (first | refine qqm rfl ?_ | ((first | refine qqr ?_ | refine qqt ?_); simp only [SS, qx24, simprocAttr, f1, f9, f10, hjl, ff_49]))
        (first | refine WK.retNil ⟨Or.inr rfl, _, rfl, ?_, ?_⟩ | refine WK.skipNil ⟨Or.inl rfl, _, rfl, ?_, ?_⟩)
        · exact fun y hy => (kp.keep y (by omega)).trans (hk.keep y hy)
        · simp only [packed, fset_apply, Nat.reduceEqDiff, ↓reduceIte, List.getD_cons_zero, List.getD_cons_succ, ff_49]
          rw [outAt_all haf] at hy f9 ⊢
          refine ⟨some ⟨Y, 0, none⟩, ?_, ?_⟩
          · rw [hst]; rfl
          · rw [hst]
            exact .inr ⟨Y, 0, _, _, _, rfl, hy, by rw [List.length_map, Nat.zero_add]; exact Nat.le_refl _, fun q y e => by rw [Nat.zero_add, List.getElem?_map, e]; rfl⟩
    · rw [if_neg hle] at hst
      repeat (first | refine qqm rfl ?_ | ((first | refine qqr ?_ | refine qqt ?_); simp only [SS, qx24, simprocAttr, hneg, hi, hi', hb, gc_2, hf, hfa, hz, d0, haf, hx, ex, hle, ff_49]))
      exact WK.retNil (err 14 hst _ rfl rfl)
end Go.Proofs.Ytemkglelfeidhaa

namespace Go.Proofs.Ytemkglelfeidhaa
open Go.AM
set_option maxRecDepth 100000
theorem stepS_err7 {g : Gram} {form : List Int} {r : Int} (h : (stepS g form r).2 ≠ 0) : (stepS g form r).1 = [] := by
 revert h
 unfold stepS
 split
 ·simp
 ·split
  ·simp
  ·split
   ·split <;> simp
   ·simp
theorem stepS_len7 {g : Gram} (ok : RightOK g) (form : List Int) (r : Int) : (stepS g form r).1.length ≤ form.length + 24 := by
 by_cases h : (stepS g form r).2 = 0
 ·obtain ⟨i, hi, t, rest, _, e1, e2, _⟩ := stepS_ok (g := g) (form := form) (r := r) (form' := (stepS g form r).1) (by rw [← h])
  have := (ok.rule i hi).len
  rw [e2]
  conv => rhs; rw [e1]
  simp only [List.length_append, List.length_cons]
  omega
 ·have := stepS_err7 h
  rw [this]; simp
set_option maxHeartbeats 8000000 in
theorem replay7_gives {v : Value} {g : Gram} {p q : Option Addr} {form rules : List Int} {n : Nat} {H : Heap} (hw : WF n H) (hg : RG H v g) (wg : WG g) (ok : RightOK g) (hp : RS (Value.int .i64) H p form) (hq : RA (Value.int .i64) H q rules) (hl : form.length + 24 * rules.length ≤ 2147483648) :
    Gives Try.prog 26 [v, .slice p form.length form.length, .slice q rules.length rules.length] n H fun v _ H' => ∃ p', v = .tuple #[.slice p' (replayL g form rules).1.length (replayL g form rules).1.length, .int .i64 ((replayL g form rules).2.1 : Nat), .int .i64 ((replayL g form rules).2.2 : Nat)] ∧ RS (Value.int .i64) H' p' (replayL g form rules).1 := by
  have hg0 := hg
  obtain ⟨pt, pv, pr, rfl, ht, hv, hr⟩ := hg
  refine Gives.of orders ok26 (Nat.le_of_ble_eq_true rfl) ?_
  have hk := Kp.new n H (.cells (gcells pt pv pr g) 25 true)
  have hb := hset_at H n (.cells (gcells pt pv pr g) 25 true)
  repeat refine qqn rfl ?_
  (refine qqr ?_; simp only [SS, qx33, simprocAttr, box_cells, box_one, ff_26])
  have hw1 := hk.wf hw
  replace hp := hp.mono hw hk
  replace hq := hq.mono hw hk
  generalize hset H n (.cells (gcells pt pv pr g) 25 true) = H1 at *
  by_cases h4 : (4096 : Int) < rules.length
  · repeat (first | refine qqm rfl ?_ | ((first | refine qqr ?_ | refine qqt ?_); simp only [SS, qx33, simprocAttr, h4, ff_26]))
    (first | refine WK.retNil ⟨Or.inr rfl, _, rfl, ?_, ?_⟩ | refine WK.skipNil ⟨Or.inl rfl, _, rfl, ?_, ?_⟩)
    · exact hk.keep
    · simp only [packed, fset_apply, Nat.reduceEqDiff, ↓reduceIte, List.getD_cons_zero, List.getD_cons_succ, ff_26]
      have e : replayL g form rules = ([], 0, 7) := by unfold replayL; rw [if_pos (by omega)]
      rw [e]
      exact ⟨none, rfl, .inl ⟨rfl, rfl⟩⟩
  have eL : replayL g form rules = replayS g form rules 0 := by unfold replayL; rw [if_neg (by omega)]
  rw [eL]
  repeat (first | refine qqm rfl ?_ | ((first | refine qqr ?_ | refine qqt ?_); simp only [SS, qx33, simprocAttr, h4, ff_26]))
  refine WK.loop (fun k s => ∃ (j : Nat) (fj : List Int) (p : Option Addr), Kp (n + 1) H1 s.n s.H ∧ s.f 1 = .slice p fj.length fj.length ∧ RS (Value.int .i64) s.H p fj ∧ s.f 2 = .slice q rules.length rules.length ∧ s.f 3 = .pointer (some ⟨n, 0, none⟩) ∧ s.f 9 = .int .i64 (j : Nat) ∧ j ≤ rules.length ∧ fj.length ≤ form.length + 24 * j ∧
      replayS g form rules 0 = replayS g fj (rules.drop j) j ∧ k = rules.length - j) rules.length ?_ ?_
  · exact ⟨0, form, p, Kp.refl _ _, rfl, hp, rfl, rfl, rfl, Nat.zero_le _, by omega, rfl, rfl⟩
  rintro kk ⟨f, n4, H4⟩ ⟨j, fj, p, kp, f1, hp, f2, f3, f9, hj, hlen, hrep, rfl⟩ ih
  simp only at f1 f2 f3 f9 ih kp hp
  have hw4 := kp.wf hw1
  have kp0 := hk.trans kp
  by_cases hjl : j < rules.length
  · have hjw : IntKind.i64.wrap ((j : Int) + 1) = ((j + 1 : Nat) : Int) := by rw [wrap_in (by omega) (by omega)]; rfl
    have hb4 := (kp.keep n (by omega)).trans hb
    have hq4 := hq.mono hw1 kp
    obtain ⟨x, kx, ds, tx, ox, rfl, hx, ex⟩ := hq4.at hjl
    repeat (first | refine qqm rfl ?_ | ((first | refine qqr ?_ | refine qqt ?_); simp only [SS, qx33, simprocAttr, f1, f2, f3, f9, hjl, hb4, gc_len, gc_all, hx, ex, ff_26]))
    refine AtCall.by (step7_gives (r := rules[j]) hw4 (hg0.mono hw kp0) wg ok hp.ra (by omega)) ?_
    rintro v n5 H5 k5 ⟨p', rfl, hp'⟩
    have hdrop : rules.drop j = rules[j] :: rules.drop (j + 1) := List.drop_eq_getElem_cons hjl
    rw [hdrop] at hrep
    simp only [replayS] at hrep
    have hsl := stepS_len7 ok fj rules[j]
    by_cases he : (stepS g fj rules[j]).2 = 0
    · rw [if_pos he] at hrep
      rw [he]
      have h00 : (((0 : Nat) : Int) = 0) = True := by simp
      simp only [SS, qx33, simprocAttr, ff_26]
      repeat (first | refine qqm rfl ?_ | ((first | refine qqr ?_ | refine qqt ?_); simp only [SS, qx33, simprocAttr, f9, h00, ff_26]))
      refine ih (rules.length - (j + 1)) (by omega) _ ⟨j + 1, _, p', kp.trans k5, rfl, hp', f2, f3, ?_, hjl, by omega, hrep, rfl⟩
      simp only [packed, fset_apply, Nat.reduceEqDiff, ↓reduceIte, List.getD_cons_zero, List.getD_cons_succ, f9, hjw, ff_26]
    · rw [if_neg he] at hrep
      have he' : (((stepS g fj rules[j]).2 : Nat) : Int) = 0 ↔ False := by simp; exact he
      simp only [SS, qx33, simprocAttr, ff_26]
      repeat (first | refine qqm rfl ?_ | ((first | refine qqr ?_ | refine qqt ?_); simp only [SS, qx33, simprocAttr, f9, he', ff_26]))
      (first | refine WK.retNil ⟨Or.inr rfl, _, rfl, ?_, ?_⟩ | refine WK.skipNil ⟨Or.inl rfl, _, rfl, ?_, ?_⟩)
      · exact (kp0.trans k5).keep
      · simp only [packed, fset_apply, Nat.reduceEqDiff, ↓reduceIte, List.getD_cons_zero, List.getD_cons_succ, f9, ff_26]
        rw [hrep]
        exact ⟨none, rfl, .inl ⟨rfl, rfl⟩⟩
  · have hje : j = rules.length := by omega
    subst hje
    rw [List.drop_length] at hrep
    simp only [replayS] at hrep
    repeat (first | refine qqm rfl ?_ | ((first | refine qqr ?_ | refine qqt ?_); simp only [SS, qx33, simprocAttr, f1, f2, f9, hjl, ff_26]))
    (first | refine WK.retNil ⟨Or.inr rfl, _, rfl, ?_, ?_⟩ | refine WK.skipNil ⟨Or.inl rfl, _, rfl, ?_, ?_⟩)
    · exact kp0.keep
    · simp only [packed, fset_apply, Nat.reduceEqDiff, ↓reduceIte, List.getD_cons_zero, List.getD_cons_succ, f1, ff_26]
      rw [hrep]
      exact ⟨p, rfl, hp⟩
end Go.Proofs.Ytemkglelfeidhaa

namespace Go.Proofs.Ytemkglelfeidhaa
open Go.AM Go.AM.Fo Go.RowKit
set_option maxRecDepth 100000
def lead7 (form : List Int) : List Int := (form.takeWhile AM.neg).map fun s => -s - 1
set_option maxHeartbeats 4000000 in
theorem lead7_gives {p : Option Addr} {form : List Int} {n : Nat} {H : Heap} (hw : WF n H) (hp : RA (Value.int .i64) H p form) (hl : form.length ≤ 1000000) (hr : ∀ s ∈ form, inI s) :
    Gives Try.prog 27 [.slice p form.length form.length] n H fun v _ H' => FI H' n v (lead7 form) := by
  refine Gives.of orders ok27 (Nat.le_of_ble_eq_true rfl) ?_
  have k0 := Kp.new n H (.cells [] 3 true)
  have b0 := hset_at H n (.cells [] 3 true)
  repeat (first | refine qqm rfl ?_ | ((first | refine qqr ?_ | refine qqt ?_); simp only [SS, qx47, vun, simprocAttr, ff_27]))
  generalize hset H n (.cells [] 3 true) = H0 at *
  refine WK.loop (fun k s => ∃ (j y : Nat) (o : List Int), Kp n H s.n s.H ∧ s.f 0 = .slice p form.length form.length ∧ s.f 3 = .slice (some ⟨y, 0, none⟩) o.length o.length ∧ s.H y = .cells (o.map (Value.int .i64)) 3 true ∧ n ≤ y ∧ s.f 4 = .int .i64 (j : Nat) ∧ j ≤ form.length ∧ (∀ s ∈ form.take j, s < 0) ∧ o = (form.take j).map (fun s => -s - 1) ∧ k = form.length - j) form.length ?_ ?_
  · exact ⟨0, n, [], k0, rfl, rfl, b0, Nat.le_refl _, rfl, Nat.zero_le _, by simp, by simp, rfl⟩
  rintro k ⟨f, n2, H2⟩ ⟨j, y, o, kp, f0, f3, hy, hyn, f4, hj, hneg, ho, rfl⟩ ih
  simp only at f0 f3 f4 kp hy ih
  have hw2 := kp.wf hw
  have hyl : y < n2 := Classical.byContradiction fun hc => by rw [hw2 y (by omega)] at hy; cases hy
  have hol : o.length = j := by rw [ho, List.length_map, List.length_take]; omega
  by_cases hlt : j < form.length
  · obtain ⟨x, kx, ds, tx, ox, rfl, hx, ex⟩ := (hp.mono hw kp).at hlt
    have hin := hr _ (List.getElem_mem hlt)
    have htj : form.take (j + 1) = form.take j ++ [form[j]] := List.take_succ_eq_append_getElem hlt
    have hjw : IntKind.i64.wrap ((j : Int) + 1) = ((j + 1 : Nat) : Int) := by rw [wrap_in (by omega) (by omega)]; rfl
    by_cases h0 : form[j] < 0
    · have hneg' : ∀ s ∈ form.take (j + 1), s < 0 := fun s hs => by
        rw [htj] at hs
        rcases List.mem_append.1 hs with hs | hs
        · exact hneg s hs
        · have : s = form[j] := by simpa using hs
          omega
      have ho' : o ++ [-form[j] - 1] = (form.take (j + 1)).map (fun s => -s - 1) := by rw [htj, List.map_append, ← ho]; rfl
      have hn := bnot_i64 hin.1 hin.2
      generalize form[j] = t at *
      have u1 : vcells (Value.int .i64 (-t - 1)) = [Value.int .i64 (-t - 1)] := rfl
      have u2 : ([Value.int .i64 (-t - 1)] : List Value).length = 1 := rfl
      have u3 : ([Value.int .i64 (-t - 1)] : List Value).all one = true := rfl
      have u4 : Go.AM.splice [Value.int IntKind.i64 (Int.ofNat 0)] 0 [Value.int .i64 (-t - 1)] = [Value.int .i64 (-t - 1)] := rfl
      have u5 : ([Value.int .i64 (-t - 1)] : List Value).take 1 = [Value.int .i64 (-t - 1)] := rfl
      have kA := Kp.new n2 H2 (.cells [.int .i64 (-t - 1)] 3 true)
      have bA := hset_at H2 n2 (.cells [.int .i64 (-t - 1)] 3 true)
      have yA := (kA.keep y hyl).trans hy
      generalize hA : hset H2 n2 (.cells [.int .i64 (-t - 1)] 3 true) = HA at *
      have kA' := (kp.trans kA).set (x := y) .dead hyn (by omega)
      generalize hA1 : hset HA y .dead = HA1 at *
      have kB := Kp.new (n2 + 1) HA1 (.cells (o.map (.int .i64) ++ [.int .i64 (-t - 1)]) 3 true)
      have bB := hset_at HA1 (n2 + 1) (.cells (o.map (.int .i64) ++ [.int .i64 (-t - 1)]) 3 true)
      have z1 : o.length + 1 ≤ bigN := by unfold bigN; omega
      have z2 : [n2].contains y = false := by simp; omega
      have z3 : (o.map (Value.int .i64)).take o.length = o.map (.int .i64) := List.take_of_length_le (by simp)
      repeat (first | refine qqm rfl ?_ | ((first | refine qqr ?_ | refine qqt ?_); simp only [SS, qx47, vun, simprocAttr, f0, f3, f4, hlt, hx, ex, h0, hn, hA, bA, u1, u2, u3, u4, u5, yA, z1, z2, z3, hA1, hjw, List.drop_zero, List.length_map, Nat.zero_add, Nat.mul_one, ff_27]))
      refine ih (form.length - (j + 1)) (by omega) _ ?_
      exact ⟨j + 1, n2 + 1, o ++ [-t - 1], kA'.trans kB, f0, by rw [List.length_append]; rfl, by rw [List.map_append]; exact bB, by have := kp.le; omega, rfl, hlt, hneg', ho', rfl⟩
    · repeat (first | refine qqm rfl ?_ | ((first | refine qqr ?_ | refine qqt ?_); simp only [SS, qx47, vun, simprocAttr, f0, f3, f4, hlt, hx, ex, h0, ff_27]))
      (first | refine WK.retNil ⟨Or.inr rfl, _, rfl, ?_, ?_⟩ | refine WK.skipNil ⟨Or.inl rfl, _, rfl, ?_, ?_⟩)
      · exact kp.keep
      · simp only [packed, fset_apply, Nat.reduceEqDiff, ↓reduceIte, List.getD_cons_zero, List.getD_cons_succ, f3, ff_27]
        obtain ⟨e1, _⟩ := tw_at hlt hneg (by omega)
        unfold lead7
        rw [e1, ← ho]
        exact ⟨y, rfl, hyn, hy⟩
  · repeat (first | refine qqm rfl ?_ | ((first | refine qqr ?_ | refine qqt ?_); simp only [SS, qx47, vun, simprocAttr, f0, f3, f4, hlt, ff_27]))
    (first | refine WK.retNil ⟨Or.inr rfl, _, rfl, ?_, ?_⟩ | refine WK.skipNil ⟨Or.inl rfl, _, rfl, ?_, ?_⟩)
    · exact kp.keep
    · simp only [packed, fset_apply, Nat.reduceEqDiff, ↓reduceIte, List.getD_cons_zero, List.getD_cons_succ, f3, ff_27]
      rw [List.take_of_length_le (by omega)] at hneg ho
      obtain ⟨e1, _⟩ := tw_all hneg
      unfold lead7
      rw [e1, ← ho]
      exact ⟨y, rfl, hyn, hy⟩
set_option maxHeartbeats 8000000 in
theorem yield7_dv {v : Value} {g : Gram} {p q : Option Addr} {rules w : List Int} {n : Nat} {H : Heap} (hw : WF n H) (hg : RG H v g) (wg : WG g) (ok : RightOK g) (hp : RS (Value.int .i64) H p [0]) (hq : RA (Value.int .i64) H q rules) (hd : Dv g [0] rules w) (hl : rules.length ≤ 1000) (hwl : w.length ≤ 1000) (hin : ∀ t ∈ w, inI t ∧ inI (-t - 1)) :
  Gives Try.prog 37 [v, .slice p 1 1, .slice q rules.length rules.length] n H fun v n' H' => ∃ u, v = .tuple #[u, .int .i64 0] ∧ FI H' n u w := by
 have hg0 := hg
 obtain ⟨pt, pv, pr, rfl, ht, hv, hr⟩ := hg
 have ig := ok_inG ok
 have hrep := hd.replay ig [] [] [] 0 (fun s hs => by cases hs)
 simp only [List.nil_append, List.append_nil, replayS] at hrep
 have eL : replayL g [0] rules = (trm w, 0, 0) := by unfold replayL; rw [if_neg (by omega)]; exact hrep
 have hneg := trm_neg (hd.pos ig)
 obtain ⟨e1, e2⟩ := tw_all hneg
 have hl7 : lead7 (trm w) = w := by unfold lead7; rw [e1]; exact trm_trm w
 have hfs : firstS (trm w) = -1 := by unfold firstS; rw [e2, if_pos rfl]
 have htl : (trm w).length = w.length := by unfold trm; simp
 refine Gives.of orders ok37 (Nat.le_of_ble_eq_true rfl) ?_
 have k1 := Kp.new n H (.cells (gcells pt pv pr g) 25 true)
 have hb1 := hset_at H n (.cells (gcells pt pv pr g) 25 true)
 repeat refine qqn rfl ?_
 (refine qqr ?_; simp only [SS, qx17, simprocAttr, abox, box_cells, box_one, ff_37])
 generalize hset H n (.cells (gcells pt pv pr g) 25 true) = H1 at *
 have hw1 := k1.wf hw
 have hrp := replay7_gives (form := [0]) (rules := rules) hw1 (hg0.mono hw k1) wg ok (hp.mono hw k1) (hq.mono hw k1) (by simp; omega)
 rw [eL] at hrp
 repeat (first | refine qqm rfl ?_ | ((first | refine qqr ?_ | refine qqt ?_); simp only [SS, qx17, simprocAttr, hb1, gc_all, gc_len, ff_37]))
 refine AtCall.by hrp ?_
 rintro v n2 H2 k2 ⟨p', rfl, hp'⟩
 have hw2 := k2.wf hw1
 have c00 : (((0 : Nat) : Int) = 0) = True := by simp
 simp only [SS, qx17, simprocAttr, ff_37]
 repeat (first | refine qqm rfl ?_ | ((first | refine qqr ?_ | refine qqt ?_); simp only [SS, qx17, simprocAttr, c00, decide_true, Bool.not_true, ff_37]))
 refine AtCall.by (first7_gives hp'.ra (by omega)) ?_
 rintro v n3 H3 _ ⟨rfl, rfl, rfl⟩
 simp only [SS, qx17, simprocAttr, hfs, ff_37]
 repeat (first | refine qqm rfl ?_ | ((first | refine qqr ?_ | refine qqt ?_); simp only [SS, qx17, simprocAttr, ff_37]))
 refine AtCall.by (lead7_gives hw2 hp'.ra (by omega) (fun s hs => ?_)) ?_
 ·unfold trm at hs
  obtain ⟨t, ht, rfl⟩ := List.mem_map.1 hs
  exact (hin t ht).2
 rw [hl7]
 rintro u n4 H4 k4 hu
 have e1 := k1.le
 have e2 := k2.le
 simp only [SS, qx17, simprocAttr, ff_37]
 repeat (first | refine qqm rfl ?_ | ((first | refine qqr ?_ | refine qqt ?_); simp only [SS, qx17, simprocAttr, ff_37]))
 (first | refine WK.retNil ⟨Or.inr rfl, _, rfl, ?_, ?_⟩ | refine WK.skipNil ⟨Or.inl rfl, _, rfl, ?_, ?_⟩)
 ·exact fun z hz => (k4.keep z (by omega)).trans ((k2.keep z (by omega)).trans (k1.keep z hz))
 ·simp only [packed, fset_apply, Nat.reduceEqDiff, ↓reduceIte, List.getD_cons_zero, List.getD_cons_succ, ff_37]
  exact ⟨u, rfl, hu.weak (by omega)⟩
set_option maxHeartbeats 8000000 in
theorem yields_dv {v : Value} {g : Gram} {q u : Option Addr} {rules w : List Int} {n : Nat} {H : Heap} (hw : WF n H) (hg : RG H v g) (wg : WG g) (ok : RightOK g) (hq : RA (Value.int .i64) H q rules) (hu : RA (Value.int .i64) H u w) (hd : Dv g [0] rules w) (hl : rules.length ≤ 1000) (hwl : w.length ≤ 1000) (hin : ∀ t ∈ w, inI t ∧ inI (-t - 1)) :
  Gives Try.prog 16 [v, .slice q rules.length rules.length, .slice u w.length w.length] n H fun v n' H' => v = .bool true := by
 have hg0 := hg
 obtain ⟨pt, pv, pr, rfl, ht, hv, hr⟩ := hg
 refine Gives.of orders ok16 (Nat.le_of_ble_eq_true rfl) ?_
 have k1 := Kp.new n H (.cells (gcells pt pv pr g) 25 true)
 have hb1 := hset_at H n (.cells (gcells pt pv pr g) 25 true)
 repeat refine qqn rfl ?_
 (refine qqr ?_; simp only [SS, qx41, simprocAttr, abox, box_cells, box_one, ff_16])
 generalize hset H n (.cells (gcells pt pv pr g) 25 true) = H1 at *
 have hw1 := k1.wf hw
 repeat (first | refine qqm rfl ?_ | ((first | refine qqr ?_ | refine qqt ?_); simp only [SS, qx41, simprocAttr, hb1, gc_all, gc_len, ff_16]))
 have k2 := Kp.new (n + 1) H1 (.cells [.int .i64 0] 3 true)
 have hq2 : RS (Value.int .i64) (hset H1 (n + 1) (.cells [.int .i64 0] 3 true)) (some ⟨n + 1, 0, none⟩) [0] := rs_new (hset_at _ _ _)
 generalize hset H1 (n + 1) (.cells [.int .i64 0] 3 true) = H2 at *
 have hw2 := k2.wf hw1
 have k12 := k1.trans k2
 refine AtCall.by (yield7_dv hw2 (hg0.mono hw k12) wg ok hq2 (hq.mono hw k12) hd hl hwl hin) ?_
 rintro v n3 H3 k3 ⟨z, rfl, hz⟩
 have hw3 := k3.wf hw2
 obtain ⟨zz, rfl, hrz⟩ := hz.rs
 have hs : same w w = true := same_iff3.2 rfl
 have e1 := k1.le
 have e2 := k2.le
 simp only [SS, qx41, simprocAttr, ff_16]
 repeat (first | refine qqm rfl ?_ | ((first | refine qqr ?_ | refine qqt ?_); simp only [SS, qx41, simprocAttr, decide_true, ff_16]))
 refine AtCall.by (same_gives hrz.ra (hu.mono hw (k12.trans k3)) (by unfold maxL; omega) (by unfold maxL; omega)) ?_
 rintro v n4 H4 _ ⟨rfl, rfl, rfl⟩
 simp only [SS, qx41, simprocAttr, hs, ff_16]
 repeat (first | refine qqm rfl ?_ | ((first | refine qqr ?_ | refine qqt ?_); simp only [SS, qx41, simprocAttr, ff_16]))
 (first | refine WK.retNil ⟨Or.inr rfl, _, rfl, ?_, ?_⟩ | refine WK.skipNil ⟨Or.inl rfl, _, rfl, ?_, ?_⟩)
 ·exact fun z hz => (k3.keep z (by omega)).trans (k12.keep z hz)
 ·simp only [packed, fset_apply, Nat.reduceEqDiff, ↓reduceIte, List.getD_cons_zero, List.getD_cons_succ, ff_16]
end Go.Proofs.Ytemkglelfeidhaa
