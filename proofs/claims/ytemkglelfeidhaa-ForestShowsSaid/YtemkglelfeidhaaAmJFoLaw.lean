/- A part of a proof. Its conditions: none. -/
import Derived.Test.YtemkglelfeidhaaAmJChClose
import Derived.Test.YtemkglelfeidhaaAmJFoAcc
import Derived.Test.YtemkglelfeidhaaAmC
import Derived.Test.YtemkglelfeidhaaAmJFacts
set_option linter.all false
namespace Go.Proofs.Ytemkglelfeidhaa
open Go.AM Go.AM.Fo Go.RowKit
set_option maxRecDepth 100000
theorem yd_dv {g : Gram} {l w : List Int} (h : Yd g l w) : ∃ d, Dv g l d w := by
 induction h with
 | nil => exact ⟨_, .nil⟩
 | term h _ ih => obtain ⟨d, hd⟩ := ih; exact ⟨d, .term h hd⟩
 | var h _ _ ih1 ih2 =>
  obtain ⟨d1, h1⟩ := ih1
  obtain ⟨d2, h2⟩ := ih2
  rw [← rgF_eq h] at h1
  have := Dv.var h h1 h2
  rw [lfF_eq h] at this
  exact ⟨_, this⟩
theorem acc_dv {g : Gram} (ok : RightOK g) {w : List Int} : accW g (gdG g) (emG g) (newS g (gdG g) (emG g)) w = true ↔ ∃ d, Dv g [0] d w :=
 (accW_iff ok).trans ⟨yd_dv, fun ⟨_, h⟩ => h.yd⟩
theorem dv_sm {g : Gram} (hg : InG g) {K : Int} (hK : (g.terms.length : Int) ≤ K) {l d w : List Int} (h : Dv g l d w) : (∀ s ∈ l, s < 0 → -s - 1 < K) → ∀ t ∈ w, t < K := by
 induction h with
 | nil => intro _ t ht; cases ht
 | @term s l d w hs _ ih =>
  intro hl t ht
  rcases List.mem_cons.1 ht with rfl | ht
  ·exact hl _ (by simp) hs
  ·exact ih (fun s hs => hl s (by simp [hs])) t ht
 | @var i l d1 d2 w1 w2 h _ _ ih1 ih2 =>
  intro hl t ht
  rcases List.mem_append.1 ht with ht | ht
  ·refine ih1 (fun s hs h0 => ?_) t ht
   rw [rgF_eq h] at hs
   have := hg.rightT _ (List.getElem_mem h) s hs h0
   omega
  ·exact ih2 (fun s hs => hl s (by simp [hs])) t ht
theorem dv_in {g : Gram} (sg : Sgm g) {d w : List Int} (hd : Dv g [0] d w) : ∀ t ∈ w, inI t ∧ inI (-t - 1) := fun t ht => by
 have h1 := hd.pos sg.ing t ht
 have h2 := dv_sm sg.ing (K := 6) (by have := sg.t6; omega) hd (fun s hs h0 => by simp at hs; omega) t ht
 unfold inI
 omega
set_option maxHeartbeats 16000000 in
theorem showsLaw_gives {v : Value} {g : Gram} {pa : Option Addr} {w : List Int} {n : Nat} {H : Heap} (hw : WF n H) (hg : RG H v g) (wg : WG g) (hq : RS (Value.int .i64) H pa w) (hi : ∀ t ∈ w, inI t) :
    GivesD Try.prog 6 [v, .slice pa w.length w.length] n H fun v _ _ => v = .bool true := by
  have hg0 := hg
  obtain ⟨pt, pv, pr, rfl, ht, hv, hr⟩ := hg
  refine GivesD.of orders ok6 (Nat.le_of_ble_eq_true rfl) ?_
  have k1 := Kp.new n H (.cells (gcells pt pv pr g) 25 true)
  have hb1 := hset_at H n (.cells (gcells pt pv pr g) 25 true)
  repeat refine qdn rfl ?_
  (refine qdr ?_; simp only [SS, qx1, y3, vun, simprocAttr, abox, box_cells, box_one, ff_6])
  generalize hset H n (.cells (gcells pt pv pr g) 25 true) = H1 at *
  have hw1 := k1.wf hw
  repeat (first | refine qdm rfl ?_ | ((first | refine qdr ?_ | refine qdt ?_); simp only [SS, qx1, y3, vun, simprocAttr, ff_6]))
  refine AtCallY.byD (alive_gives hw1) ?_
  rintro v n2 H2 k2 rfl
  have hw2 := k2.wf hw1
  have hle1 := k1.le
  have hle2 := k2.le
  have hb2 := (k2.keep n (by omega)).trans hb1
  have hg2 := (hg0.mono hw k1).mono hw1 k2
  simp only [SS, qx1, y3, vun, simprocAttr, ff_6]
  repeat (first | refine qdm rfl ?_ | ((first | refine qdr ?_ | refine qdt ?_); simp only [SS, qx1, y3, vun, simprocAttr, hb2, gc_all, gc_len, ff_6]))
  refine AtCallY.by (few_gives hw2 hg2 wg) ?_
  rintro v n3 H3 k3 rfl
  have hw3 := k3.wf hw2
  have hle3 := k3.le
  have hb3 := (k3.keep n (by omega)).trans hb2
  have hg3 := hg2.mono hw2 k3
  have kk3 : ∀ z, z < n → H3 z = H z := fun z hz => (k3.keep z (by omega)).trans ((k2.keep z (by omega)).trans (k1.keep z hz))
  cases hf : few g with
  | false =>
    simp only [SS, qx1, y3, vun, simprocAttr, Bool.not_false, ff_6]
    repeat (first | refine qdm rfl ?_ | ((first | refine qdr ?_ | refine qdt ?_); simp only [SS, qx1, y3, vun, simprocAttr, ff_6]))
    (first | refine WKD.retNil ⟨Or.inr rfl, _, rfl, ?_, ?_⟩ | refine WKD.skipNil ⟨Or.inl rfl, _, rfl, ?_, ?_⟩)
    · exact kk3
    · simp only [packed, fset_apply, Nat.reduceEqDiff, ↓reduceIte, List.getD_cons_zero, List.getD_cons_succ, ff_6]
  | true =>
    simp only [SS, qx1, y3, vun, simprocAttr, Bool.not_true, hb3, gc_all, gc_len, ff_6]
    refine AtCallY.by (right_gives hw3 hg3 wg) ?_
    rintro v n4 H4 k4 ⟨t, rfl, hok⟩
    have hw4 := k4.wf hw3
    have hle4 := k4.le
    have hb4 := (k4.keep n (by omega)).trans hb3
    have hg4 := hg3.mono hw3 k4
    have kk4 : ∀ z, z < n → H4 z = H z := fun z hz => (k4.keep z (by omega)).trans (kk3 z hz)
    cases t with
    | false =>
      simp only [SS, qx1, y3, vun, simprocAttr, Bool.not_false, ff_6]
      repeat (first | refine qdm rfl ?_ | ((first | refine qdr ?_ | refine qdt ?_); simp only [SS, qx1, y3, vun, simprocAttr, ff_6]))
      (first | refine WKD.retNil ⟨Or.inr rfl, _, rfl, ?_, ?_⟩ | refine WKD.skipNil ⟨Or.inl rfl, _, rfl, ?_, ?_⟩)
      · exact kk4
      · simp only [packed, fset_apply, Nat.reduceEqDiff, ↓reduceIte, List.getD_cons_zero, List.getD_cons_succ, ff_6]
    | true =>
      have ok := hok rfl
      by_cases hal : (16 : Int) < (w.length : Int)
      · simp only [SS, qx1, y3, vun, simprocAttr, Bool.not_true, hal, decide_true, ff_6]
        repeat (first | refine qdm rfl ?_ | ((first | refine qdr ?_ | refine qdt ?_); simp only [SS, qx1, y3, vun, simprocAttr, ff_6]))
        (first | refine WKD.retNil ⟨Or.inr rfl, _, rfl, ?_, ?_⟩ | refine WKD.skipNil ⟨Or.inl rfl, _, rfl, ?_, ?_⟩)
        · exact kk4
        · simp only [packed, fset_apply, Nat.reduceEqDiff, ↓reduceIte, List.getD_cons_zero, List.getD_cons_succ, ff_6]
      have sg := ok_sgm ok hf
      have kA := k1.trans (k2.trans (k3.trans k4))
      have hr4 := hr.mono hw kA
      have hq4 := hq.mono hw kA
      have c00 : (((0 : Nat) : Int) = 0) = True := by simp
      simp only [SS, qx1, y3, vun, simprocAttr, Bool.not_true, hal, decide_true, decide_false, ff_6]
      repeat (first | refine qdm rfl ?_ | ((first | refine qdr ?_ | refine qdt ?_); simp only [SS, qx1, y3, vun, simprocAttr, hb4, gc_all, gc_len, ff_6]))
      refine AtCallY.byD (new_gives hw4 hr4 hq4 sg (by unfold maxL; omega)) ?_
      rintro v n5 H5 k5 hv5
      have hw5 := k5.wf hw4
      have kB := kA.trans k5
      have hb5 := (k5.keep n (by omega)).trans hb4
      have hr5 := hr.mono hw kB
      have hq5 := hq.mono hw kB
      have hle5 := k5.le
      rcases hv5 with ⟨hlong, rfl⟩ | ⟨hwl, fo, m, pw, ks, rd, rfl, md⟩
      · have hlong' : (10 : Int) < (w.length : Int) := by omega
        simp only [SS, qx1, y3, vun, simprocAttr, ff_6]
        repeat (first | refine qdm rfl ?_ | ((first | refine qdr ?_ | refine qdt ?_); simp only [SS, qx1, y3, vun, simprocAttr, hlong', hb5, gc_all, gc_len, fnil_nil, decide_true, ff_6]))
        refine AtCallY.byD (trees_gives hw5 hr5 hq5 sg (by unfold maxL; omega)) ?_
        rintro v n6 H6 k6 ⟨t, rfl, h0, _⟩
        obtain rfl := h0 hlong
        simp only [SS, qx1, y3, vun, simprocAttr, ff_6]
        repeat (first | refine qdm rfl ?_ | ((first | refine qdr ?_ | refine qdt ?_); simp only [SS, qx1, y3, vun, simprocAttr, c00, decide_true, ff_6]))
        (first | refine WKD.retNil ⟨Or.inr rfl, _, rfl, ?_, ?_⟩ | refine WKD.skipNil ⟨Or.inl rfl, _, rfl, ?_, ?_⟩)
        · exact (kB.trans k6).keep
        · simp only [packed, fset_apply, Nat.reduceEqDiff, ↓reduceIte, List.getD_cons_zero, List.getD_cons_succ, ff_6]
          all_goals rfl
      have hwl' : ¬ (10 : Int) < (w.length : Int) := by omega
      simp only [SS, qx1, y3, vun, simprocAttr, ff_6]
      repeat (first | refine qdm rfl ?_ | ((first | refine qdr ?_ | refine qdt ?_); simp only [SS, qx1, y3, vun, simprocAttr, hwl', hb5, gc_all, gc_len, ff_6]))
      try simp only [SS, qx1, y3, vun, simprocAttr, ff_6]
      repeat (first | refine qdm rfl ?_ | ((first | refine qdr ?_ | refine qdt ?_); simp only [SS, qx1, y3, vun, simprocAttr, ff_6]))
      refine AtCallY.by (one_gives hw5 md hwl sg (Kp.refl _ _)) ?_
      rintro v n6 H6 k6 hv6
      have hw6 := k6.wf hw5
      have kC := kB.trans k6
      have hb6 := (k6.keep n (by omega)).trans hb5
      have hg6 := hg0.mono hw kC
      have hr6 := hr.mono hw kC
      have hq6 := hq.mono hw kC
      have hle6 := k6.le
      obtain ⟨tt, htt⟩ := tn_ex g w
      rcases hv6 with ⟨hrd, rfl⟩ | ⟨hrd, u, rfl, hu⟩
      · have hno := tn_none md.ok sg.ing hrd
        have hac : accW g (gdG g) (emG g) (newS g (gdG g) (emG g)) w = false := by
          rw [Bool.eq_false_iff]
          exact fun h => by obtain ⟨d, hd⟩ := (acc_dv ok).1 h; exact hno d hd
        obtain rfl : tt = 0 := by
          rcases htt with ⟨h, _⟩ | ⟨_, d, hd, _⟩ | ⟨_, d, _, _, hd, _⟩
          · exact h
          · exact absurd hd (hno d)
          · exact absurd hd (hno d)
        simp only [SS, qx1, y3, vun, simprocAttr, ff_6]
        repeat (first | refine qdm rfl ?_ | ((first | refine qdr ?_ | refine qdt ?_); simp only [SS, qx1, y3, vun, simprocAttr, hb6, gc_all, gc_len, ff_6]))
        refine AtCallY.by (accepts_gives hw6 hg6 wg ok hf hq6.ra (by omega) hi) ?_
        rintro v n7 H7 k7 rfl
        rw [hac]
        have hw7 := k7.wf hw6
        have kD := kC.trans k7
        have hb7 := (k7.keep n (by omega)).trans hb6
        simp only [SS, qx1, y3, vun, simprocAttr, ff_6]
        repeat (first | refine qdm rfl ?_ | ((first | refine qdr ?_ | refine qdt ?_); simp only [SS, qx1, y3, vun, simprocAttr, bne_self_eq_false, Bool.not_false, ne_eq, not_true_eq_false, decide_false, ff_6]))
        refine AtCallY.by (two_gives hw5 md hwl sg (k6.trans k7)) ?_
        rintro v n8 H8 k8 hv8
        have hw8 := k8.wf hw7
        have hle7 := k7.le
        rcases hv8 with ⟨a, b, oa, ob, rfl, _, ha, _⟩ | ⟨rfl, _⟩
        · exact absurd ha (hno oa)
        have kE := kD.trans k8
        have hb8 := (k8.keep n (by omega)).trans hb7
        simp only [SS, qx1, y3, vun, simprocAttr, ff_6]
        repeat (first | refine qdm rfl ?_ | ((first | refine qdr ?_ | refine qdt ?_); simp only [SS, qx1, y3, vun, simprocAttr, c00, decide_true, Bool.not_false, hb8, gc_all, gc_len, ff_6]))
        refine AtCallY.by (trees_flat hw8 (hr.mono hw kE) (hq.mono hw kE) sg hwl htt) ?_
        rintro v n9 H9 _ ⟨rfl, rfl, rfl⟩
        simp only [SS, qx1, y3, vun, simprocAttr, ff_6]
        repeat (first | refine qdm rfl ?_ | ((first | refine qdr ?_ | refine qdt ?_); simp only [SS, qx1, y3, vun, simprocAttr, c00, decide_true, ff_6]))
        (first | refine WKD.retNil ⟨Or.inr rfl, _, rfl, ?_, ?_⟩ | refine WKD.skipNil ⟨Or.inl rfl, _, rfl, ?_, ?_⟩)
        · exact kE.keep
        · simp only [packed, fset_apply, Nat.reduceEqDiff, ↓reduceIte, List.getD_cons_zero, List.getD_cons_succ, ff_6]
          all_goals rfl
      have hd := tn_pl md.ok sg.ing hrd
      have hin := dv_in sg hd
      generalize pl g w rd (root w) = d at *
      obtain ⟨zd, rfl, _, hzd⟩ := hu
      have hac : accW g (gdG g) (emG g) (newS g (gdG g) (emG g)) w = true := (acc_dv ok).2 ⟨d, hd⟩
      simp only [SS, qx1, y3, vun, simprocAttr, ff_6]
      repeat (first | refine qdm rfl ?_ | ((first | refine qdr ?_ | refine qdt ?_); simp only [SS, qx1, y3, vun, simprocAttr, hb6, gc_all, gc_len, ff_6]))
      refine AtCallY.by (accepts_gives hw6 hg6 wg ok hf hq6.ra (by omega) hi) ?_
      rintro v n7 H7 k7 rfl
      rw [hac]
      have hw7 := k7.wf hw6
      have kD := kC.trans k7
      have hb7 := (k7.keep n (by omega)).trans hb6
      simp only [SS, qx1, y3, vun, simprocAttr, ff_6]
      repeat (first | refine qdm rfl ?_ | ((first | refine qdr ?_ | refine qdt ?_); simp only [SS, qx1, y3, vun, simprocAttr, bne_self_eq_false, Bool.not_true, ne_eq, not_true_eq_false, decide_false, ff_6]))
      refine AtCallY.by (two_gives hw5 md hwl sg (k6.trans k7)) ?_
      rintro v n8 H8 k8 hv8
      have hw8 := k8.wf hw7
      have kE := kD.trans k8
      have hle7 := k7.le
      have hle8 := k8.le
      have hb8 := (k8.keep n (by omega)).trans hb7
      have hr8 := hr.mono hw kE
      have hq8 := hq.mono hw kE
      have hg8 := hg0.mono hw kE
      have hzd8 : RS (Value.int .i64) H8 (some ⟨zd, 0, none⟩) d := (rs_new hzd).mono hw6 (k7.trans k8)
      have i12 : (((1 : Nat) : Int) = 2) = False := by simp
      have i11 : (((1 : Nat) : Int) = 1) = True := by simp
      have i22 : (((2 : Nat) : Int) = 2) = True := by simp
      rcases hv8 with ⟨a, b, oa, ob, rfl, hne, ha, hb, fa, fb, hla, hlb⟩ | ⟨rfl, huq⟩
      · obtain rfl : tt = 2 := by
          rcases htt with ⟨_, h⟩ | ⟨_, e, _, h⟩ | ⟨h, _⟩
          · exact absurd ha (h _)
          · exact absurd ((h _ ha).trans (h _ hb).symm) hne
          · exact h
        obtain ⟨za, rfl, _, hza⟩ := fa
        obtain ⟨zb, rfl, _, hzb⟩ := fb
        have hsab : same oa ob = false := by rw [Bool.eq_false_iff]; exact fun e => hne (same_iff3.1 e)
        have last : ∀ {n9 : Nat} {H9 : Heap} (k9 : Kp n8 H8 n9 H9), RS (Value.int .i64) H9 (some ⟨za, 0, none⟩) oa ∧ RS (Value.int .i64) H9 (some ⟨zb, 0, none⟩) ob ∧ RS (Value.int .i64) H9 pa w ∧ RG H9 (.agg (gcells pt pv pr g).toArray) g ∧ WF n9 H9 ∧ H9 n = .cells (gcells pt pv pr g) 25 true := fun k9 =>
          ⟨(rs_new hza).mono hw8 k9, (rs_new hzb).mono hw8 k9, hq8.mono hw8 k9, hg8.mono hw8 k9, k9.wf hw8, (k9.keep n (by omega)).trans hb8⟩
        simp only [SS, qx1, y3, vun, simprocAttr, ff_6]
        apply WKD.skipSeq
        apply WKD.seq
        refine WKD.cut (fun s => Kp n8 H8 s.n s.H ∧ s.f 1 = .slice pa w.length w.length ∧ s.f 2 = .pointer (some ⟨n, 0, none⟩) ∧ s.f 11 = .slice (some ⟨za, 0, none⟩) oa.length oa.length ∧ s.f 12 = .slice (some ⟨zb, 0, none⟩) ob.length ob.length ∧ s.f 13 = .bool true) ?_ ?_
        · repeat (first | refine qdm rfl ?_ | ((first | refine qdr ?_ | refine qdt ?_); simp only [SS, qx1, y3, vun, simprocAttr, hb8, gc_all, gc_len, ff_6]))
          refine AtCallY.by (trees_flat hw8 hr8 hq8 sg hwl htt) ?_
          rintro v n9 H9 _ ⟨rfl, rfl, rfl⟩
          by_cases hdl : (d.length : Int) ≤ 200
          · simp only [SS, qx1, y3, vun, simprocAttr, i22, decide_true, bne_self_eq_false, ne_eq, not_true_eq_false, decide_false, Bool.not_true, Bool.not_false, hdl, hb8, gc_all, gc_len, ff_6]
            refine AtCallY.by (yields_dv hw8 hg8 wg ok hzd8.ra hq8.ra hd (by omega) (by omega) hin) ?_
            rintro v n10 H10 k10 rfl
            simp only [SS, qx1, y3, vun, simprocAttr, Bool.not_true, decide_false, ff_6]
            repeat (first | refine qdm rfl ?_ | ((first | refine qdr ?_ | refine qdt ?_); simp only [SS, qx1, y3, vun, simprocAttr, ff_6]))
            exact WKD.skipNil ⟨rfl, k10, rfl, rfl, rfl, rfl, rfl⟩
          · simp only [SS, qx1, y3, vun, simprocAttr, i22, decide_true, bne_self_eq_false, ne_eq, not_true_eq_false, decide_false, Bool.not_true, Bool.not_false, hdl, hb8, gc_all, gc_len, ff_6]
            repeat (first | refine qdm rfl ?_ | ((first | refine qdr ?_ | refine qdt ?_); simp only [SS, qx1, y3, vun, simprocAttr, ff_6]))
            exact WKD.skipNil ⟨rfl, Kp.refl _ _, rfl, rfl, rfl, rfl, rfl⟩
        rintro ⟨f, n9, H9⟩ ⟨k9, f1, f2, f11, f12, f13⟩
        simp only at k9 f1 f2 f11 f12 f13
        obtain ⟨l1, l2, l3, l4, l5, l6⟩ := last k9
        repeat (first | refine qdm rfl ?_ | ((first | refine qdr ?_ | refine qdt ?_); simp only [SS, qx1, y3, vun, simprocAttr, f1, f2, f11, f12, f13, Bool.not_true, ff_6]))
        have hbl : bigN ≤ maxL := by unfold bigN maxL; omega
        refine AtCallY.by (same_gives l1.ra l2.ra (by omega) (by omega)) ?_
        rintro v n10 H10 _ ⟨rfl, rfl, rfl⟩
        rw [hsab]
        have hA := fun h => yields_dv (g := g) (q := some ⟨za, 0, none⟩) (u := pa) l5 l4 wg ok l1.ra l3.ra ha h (by omega) hin
        have kF := kE.trans k9
        by_cases hal2 : (200 : Int) < (oa.length : Int)
        · by_cases hbl2 : (200 : Int) < (ob.length : Int)
          · simp only [SS, qx1, y3, vun, simprocAttr, f1, f2, f11, f12, l6, gc_all, gc_len, hal2, hbl2, Bool.not_false, decide_true, ff_6]
            repeat (first | refine qdm rfl ?_ | ((first | refine qdr ?_ | refine qdt ?_); simp only [SS, qx1, y3, vun, simprocAttr, ff_6]))
            (first | refine WKD.retNil ⟨Or.inr rfl, _, rfl, ?_, ?_⟩ | refine WKD.skipNil ⟨Or.inl rfl, _, rfl, ?_, ?_⟩)
            · exact kF.keep
            · simp only [packed, fset_apply, Nat.reduceEqDiff, ↓reduceIte, List.getD_cons_zero, List.getD_cons_succ, ff_6]
          · simp only [SS, qx1, y3, vun, simprocAttr, f1, f2, f11, f12, l6, gc_all, gc_len, hal2, hbl2, Bool.not_false, decide_true, decide_false, ff_6]
            refine AtCallY.by (yields_dv (g := g) (q := some ⟨zb, 0, none⟩) (u := pa) l5 l4 wg ok l2.ra l3.ra hb (by omega) (by omega) hin) ?_
            rintro v n11 H11 k11 rfl
            simp only [SS, qx1, y3, vun, simprocAttr, ff_6]
            repeat (first | refine qdm rfl ?_ | ((first | refine qdr ?_ | refine qdt ?_); simp only [SS, qx1, y3, vun, simprocAttr, ff_6]))
            (first | refine WKD.retNil ⟨Or.inr rfl, _, rfl, ?_, ?_⟩ | refine WKD.skipNil ⟨Or.inl rfl, _, rfl, ?_, ?_⟩)
            · exact (kF.trans k11).keep
            · simp only [packed, fset_apply, Nat.reduceEqDiff, ↓reduceIte, List.getD_cons_zero, List.getD_cons_succ, ff_6]
        · simp only [SS, qx1, y3, vun, simprocAttr, f1, f2, f11, f12, l6, gc_all, gc_len, hal2, Bool.not_false, decide_true, decide_false, ff_6]
          refine AtCallY.by (hA (by omega)) ?_
          rintro v n11 H11 k11 rfl
          have m2 := l2.mono l5 k11
          have m3 := l3.mono l5 k11
          have m4 := l4.mono l5 k11
          have m6 := (k11.keep n (by have := k9.le; omega)).trans l6
          by_cases hbl2 : (200 : Int) < (ob.length : Int)
          · simp only [SS, qx1, y3, vun, simprocAttr, f1, f2, f12, m6, gc_all, gc_len, hbl2, decide_true, ff_6]
            repeat (first | refine qdm rfl ?_ | ((first | refine qdr ?_ | refine qdt ?_); simp only [SS, qx1, y3, vun, simprocAttr, ff_6]))
            (first | refine WKD.retNil ⟨Or.inr rfl, _, rfl, ?_, ?_⟩ | refine WKD.skipNil ⟨Or.inl rfl, _, rfl, ?_, ?_⟩)
            · exact (kF.trans k11).keep
            · simp only [packed, fset_apply, Nat.reduceEqDiff, ↓reduceIte, List.getD_cons_zero, List.getD_cons_succ, ff_6]
          · simp only [SS, qx1, y3, vun, simprocAttr, f1, f2, f12, m6, gc_all, gc_len, hbl2, decide_false, ff_6]
            refine AtCallY.by (yields_dv (g := g) (q := some ⟨zb, 0, none⟩) (u := pa) (k11.wf l5) m4 wg ok m2.ra m3.ra hb (by omega) (by omega) hin) ?_
            rintro v n12 H12 k12 rfl
            simp only [SS, qx1, y3, vun, simprocAttr, ff_6]
            repeat (first | refine qdm rfl ?_ | ((first | refine qdr ?_ | refine qdt ?_); simp only [SS, qx1, y3, vun, simprocAttr, ff_6]))
            (first | refine WKD.retNil ⟨Or.inr rfl, _, rfl, ?_, ?_⟩ | refine WKD.skipNil ⟨Or.inl rfl, _, rfl, ?_, ?_⟩)
            · exact (kF.trans (k11.trans k12)).keep
            · simp only [packed, fset_apply, Nat.reduceEqDiff, ↓reduceIte, List.getD_cons_zero, List.getD_cons_succ, ff_6]
      · obtain rfl : tt = 1 := by
          rcases htt with ⟨_, h⟩ | ⟨h, _⟩ | ⟨_, e, e', hne, he, he'⟩
          · exact absurd hd (h _)
          · exact h
          · exact absurd (huq _ _ he he') hne
        simp only [SS, qx1, y3, vun, simprocAttr, ff_6]
        repeat (first | refine qdm rfl ?_ | ((first | refine qdr ?_ | refine qdt ?_); simp only [SS, qx1, y3, vun, simprocAttr, hb8, gc_all, gc_len, ff_6]))
        refine AtCallY.by (trees_flat hw8 hr8 hq8 sg hwl htt) ?_
        rintro v n9 H9 _ ⟨rfl, rfl, rfl⟩
        by_cases hdl : (d.length : Int) ≤ 200
        · simp only [SS, qx1, y3, vun, simprocAttr, i12, decide_false, bne_self_eq_false, ne_eq, not_true_eq_false, Bool.not_true, Bool.not_false, hdl, decide_true, hb8, gc_all, gc_len, ff_6]
          refine AtCallY.by (yields_dv hw8 hg8 wg ok hzd8.ra hq8.ra hd (by omega) (by omega) hin) ?_
          rintro v n10 H10 k10 rfl
          have hb10 := (k10.keep n (by omega)).trans hb8
          have hw10 := k10.wf hw8
          have kF := kE.trans k10
          simp only [SS, qx1, y3, vun, simprocAttr, Bool.not_true, decide_false, ff_6]
          repeat (first | refine qdm rfl ?_ | ((first | refine qdr ?_ | refine qdt ?_); simp only [SS, qx1, y3, vun, simprocAttr, c00, decide_true, Bool.not_false, hb10, gc_all, gc_len, ff_6]))
          refine AtCallY.by (trees_flat hw10 (hr.mono hw kF) (hq.mono hw kF) sg hwl htt) ?_
          rintro v n11 H11 _ ⟨rfl, rfl, rfl⟩
          simp only [SS, qx1, y3, vun, simprocAttr, i11, decide_true, ff_6]
          repeat (first | refine qdm rfl ?_ | ((first | refine qdr ?_ | refine qdt ?_); simp only [SS, qx1, y3, vun, simprocAttr, ff_6]))
          (first | refine WKD.retNil ⟨Or.inr rfl, _, rfl, ?_, ?_⟩ | refine WKD.skipNil ⟨Or.inl rfl, _, rfl, ?_, ?_⟩)
          · exact kF.keep
          · simp only [packed, fset_apply, Nat.reduceEqDiff, ↓reduceIte, List.getD_cons_zero, List.getD_cons_succ, ff_6]
        · simp only [SS, qx1, y3, vun, simprocAttr, i12, decide_false, bne_self_eq_false, ne_eq, not_true_eq_false, Bool.not_true, Bool.not_false, hdl, decide_true, hb8, gc_all, gc_len, ff_6]
          repeat (first | refine qdm rfl ?_ | ((first | refine qdr ?_ | refine qdt ?_); simp only [SS, qx1, y3, vun, simprocAttr, c00, decide_true, Bool.not_false, hb8, gc_all, gc_len, ff_6]))
          refine AtCallY.by (trees_flat hw8 hr8 hq8 sg hwl htt) ?_
          rintro v n11 H11 _ ⟨rfl, rfl, rfl⟩
          simp only [SS, qx1, y3, vun, simprocAttr, i11, decide_true, ff_6]
          repeat (first | refine qdm rfl ?_ | ((first | refine qdr ?_ | refine qdt ?_); simp only [SS, qx1, y3, vun, simprocAttr, ff_6]))
          (first | refine WKD.retNil ⟨Or.inr rfl, _, rfl, ?_, ?_⟩ | refine WKD.skipNil ⟨Or.inl rfl, _, rfl, ?_, ?_⟩)
          · exact kE.keep
          · simp only [packed, fset_apply, Nat.reduceEqDiff, ↓reduceIte, List.getD_cons_zero, List.getD_cons_succ, ff_6]
end Go.Proofs.Ytemkglelfeidhaa

namespace Go.Proofs.Ytemkglelfeidhaa
open Go.AM
set_option maxRecDepth 100000
theorem und_26 : Try.prog.underlying 26 = some (.slice 3) := by kernel_rfl
theorem und_22 : Try.prog.underlying 22 = some (.slice 9) := by kernel_rfl
theorem und_23 : Try.prog.underlying 23 = some (.slice 49) := by kernel_rfl
theorem und_25 : ∃ f1 f2 f3 : Field, Try.prog.underlying 25 = some (.struct #[f1, f2, f3]) ∧ f1.type = 22 ∧ f1.offset = 0 ∧ f2.type = 22 ∧ f2.offset = 1 ∧ f3.type = 23 ∧ f3.offset = 2 :=
 ⟨{ name := "Terms", type := 22, offset := 0, embedded := false, tag := "", pkgPath := "", byteOffset := 0 }, { name := "Vars", type := 22, offset := 1, embedded := false, tag := "", pkgPath := "", byteOffset := 24 },
  { name := "Rules", type := 23, offset := 2, embedded := false, tag := "", pkgPath := "", byteOffset := 48 }, by kernel_rfl, rfl, rfl, rfl, rfl, rfl, rfl⟩
theorem und_49 : ∃ f1 f2 f3 : Field, Try.prog.underlying 49 = some (.struct #[f1, f2, f3]) ∧ f1.type = 3 ∧ f1.offset = 0 ∧ f2.type = 26 ∧ f2.offset = 1 ∧ f3.type = 47 ∧ f3.offset = 2 :=
 ⟨{ name := "Left", type := 3, offset := 0, embedded := false, tag := "", pkgPath := "", byteOffset := 0 }, { name := "Right", type := 26, offset := 1, embedded := false, tag := "", pkgPath := "", byteOffset := 8 },
  { name := "Weight", type := 47, offset := 2, embedded := false, tag := "", pkgPath := "", byteOffset := 32 }, by kernel_rfl, rfl, rfl, rfl, rfl, rfl, rfl⟩
theorem gramT : GramT Try.prog 25 49 3 9 22 23 26 47 := ⟨und_25, und_49, und_3, und_9, und_22, und_23, und_26, und_47, csz_3, csz_9, csz_22, csz_23, csz_26, csz_47, csz_49, csz_25⟩
theorem own : ownKnob Try.prog.godebug = none := by kernel_rfl
theorem laid : laidOutB Try.prog = true := by kernel_rfl
theorem plain_all : ([25, 3, 26].all fun t => plainT Try.prog 10 t && Try.prog.readableRec t && decide (t < Try.prog.types.size)) = true := by kernel_rfl
theorem plain_of {t : TypeId} (h : t ∈ [25, 3, 26]) : plainT Try.prog 10 t = true ∧ Try.prog.readableRec t = true ∧ t < Try.prog.types.size := by
 have := List.all_eq_true.1 plain_all t h
 simp only [Bool.and_eq_true, decide_eq_true_eq] at this
 exact ⟨this.1.1, this.1.2, this.2⟩
end Go.Proofs.Ytemkglelfeidhaa
