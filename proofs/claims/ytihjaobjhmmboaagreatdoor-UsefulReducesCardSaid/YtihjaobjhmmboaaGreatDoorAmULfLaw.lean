/- A part of a proof. Its conditions: none. -/
import Derived.Test.YtihjaobjhmmboaaGreatDoorAmUReduce
import Derived.Test.YtihjaobjhmmboaaGreatDoorAmULfRef09
import Derived.Test.YtihjaobjhmmboaaGreatDoorAmUKey
import Derived.Test.YtihjaobjhmmboaaGreatDoorAmUMul
import Derived.Test.YtihjaobjhmmboaaGreatDoorAmULfFew
import Derived.Test.YtihjaobjhmmboaaGreatDoorAmC
import Derived.Test.YtihjaobjhmmboaaGreatDoorAmUFacts
set_option linter.all false
namespace Go.Proofs.YtihjaobjhmmboaaGreatDoor
open Go.AM
set_option maxRecDepth 100000
set_option maxHeartbeats 16000000 in
theorem reducesLaw_gives {v : Value} {g : Gram} {n : Nat} {H : Heap} (hw : WF n H) (hG : ∀ x, G x ≠ .dead → H x = G x) (hg : RG H v g) (wg : WG g) (ho : RO Tryz.prog H v) :
    Gives Tryz.prog 7 [v] n H fun v _ _ => v = .bool true := by
  have hg0 := hg
  have hGH : GH n H := ⟨hw, hG⟩
  obtain ⟨pt, pv, pr, rfl, ht, hv, hr⟩ := hg
  refine Gives.of orders ok7 (Nat.le_of_ble_eq_true rfl) ?_
  have k1 := Kp.new n H (.cells (gcells pt pv pr g) 25 true)
  have hb1 := hset_at H n (.cells (gcells pt pv pr g) 25 true)
  repeat refine qqn rfl ?_
  (refine qqr ?_; simp only [SS, qx5, vun, simprocAttr, abox, box_cells, box_one, ff_7])
  generalize hset H n (.cells (gcells pt pv pr g) 25 true) = H1 at *
  have hw1 := k1.wf hw
  have hG1 := hGH.keep k1
  repeat (first | refine qqm rfl ?_ | ((first | refine qqr ?_ | refine qqt ?_); simp only [SS, qx5, vun, simprocAttr, ff_7]))
  refine AtCall.by (alive_gives _ _ hG1.2) ?_
  rintro v n2 H2 k2 ⟨rfl, rfl, rfl⟩
  have hg2 := hg0.mono hw k1
  simp only [SS, qx5, vun, simprocAttr, ff_7]
  repeat (first | refine qqm rfl ?_ | ((first | refine qqr ?_ | refine qqt ?_); simp only [SS, qx5, vun, simprocAttr, hb1, gc_all, gc_len, ff_7]))
  refine AtCall.by (few_gives hw1 hg2 wg) ?_
  rintro v n3 H3 k3 rfl
  have hw3 := k3.wf hw1
  have hle3 := k3.le
  have hb3 := (k3.keep n (by omega)).trans hb1
  have hg3 := hg2.mono hw1 k3
  have kk3 := k1.trans k3
  cases hf : few g with
  | false =>
    simp only [SS, qx5, vun, simprocAttr, Bool.not_false, ff_7]
    repeat (first | refine qqm rfl ?_ | ((first | refine qqr ?_ | refine qqt ?_); simp only [SS, qx5, vun, simprocAttr, ff_7]))
    first | refine qqf ?_ ?_ | refine qqg ?_ ?_
    · exact kk3.keep
    · simp only [packed, qv, Nat.reduceEqDiff, ↓reduceIte, ff_7]
  | true =>
    simp only [SS, qx5, vun, simprocAttr, Bool.not_true, hb3, gc_all, gc_len, ff_7]
    refine AtCall.by (rightX_gives hw3 hg3 wg) ?_
    rintro v n4 H4 k4 ⟨t, rfl, hok⟩
    have hw4 := k4.wf hw3
    have hle4 := k4.le
    have hb4 := (k4.keep n (by omega)).trans hb3
    have kk4 := kk3.trans k4
    cases t with
    | false =>
      simp only [SS, qx5, vun, simprocAttr, Bool.not_false, ff_7]
      repeat (first | refine qqm rfl ?_ | ((first | refine qqr ?_ | refine qqt ?_); simp only [SS, qx5, vun, simprocAttr, ff_7]))
      first | refine qqf ?_ ?_ | refine qqg ?_ ?_
      · exact kk4.keep
      · simp only [packed, qv, Nat.reduceEqDiff, ↓reduceIte, ff_7]
    | true =>
      have okx := hok rfl
      have ok := okx.toRightOK
      have hi := ok.inG
      have hv64 := ok.vars
      have hv1 := ok.vars1
      have hrl := ok.rules
      have hrne : g.rules ≠ [] := fun h0 => by
        have := ok.count 0 (by omega)
        rw [h0] at this
        exact this rfl
      simp only [SS, qx5, vun, simprocAttr, Bool.not_true, ff_7]
      repeat (first | refine qqm rfl ?_ | ((first | refine qqr ?_ | refine qqt ?_); simp only [SS, qx5, vun, simprocAttr, hb4, gc_all, gc_len, ff_7]))
      refine AtCall.by (reduce_gives hw4 (hg0.mono hw kk4) wg ok (ro_kp hr hrne hw kk4 ho)) ?_
      rintro v n5 H5 k5 ⟨us, ws, hul, hwl, hus, hws, hred⟩
      have hw5 := k5.wf hw4
      have hle5 := k5.le
      have hb5 := (k5.keep n (by omega)).trans hb4
      have kk5 := kk4.trans k5
      rcases hred with ⟨hu0, rfl⟩ | ⟨hu0, yt, yv, yw, yr, L, rfl, hT, hV, hW, hL, hLr⟩
      · have hp0 : ¬ Prd g 0 := fun h => by
          have := (uB_hold (us := us) (v := 0)).2 ((hus 0).2 (.base h))
          rw [hu0] at this; cases this
        have k6 := Kp.new n5 H5 (.cells [.slice none 0 0, .slice none 0 0, .slice none 0 0] 25 true)
        have hh6 := hset_at H5 n5 (.cells [.slice none 0 0, .slice none 0 0, .slice none 0 0] 25 true)
        have hb6 := (k6.keep n (by omega)).trans hb5
        simp only [SS, qx5, vun, simprocAttr, List.toList_toArray, ff_7]
        generalize hset H5 n5 (.cells [.slice none 0 0, .slice none 0 0, .slice none 0 0] 25 true) = H6 at *
        have hw6 := k6.wf hw5
        have kk6 := kk5.trans k6
        repeat (first | refine qqm rfl ?_ | ((first | refine qqr ?_ | refine qqt ?_); simp only [SS, qx5, vun, simprocAttr, hb6, gc_all, gc_len, ff_7]))
        refine AtCall.by (productiveR_gives hw6 (hg0.mono hw kk6) wg ok) ?_
        rintro v n7 H7 k7 ⟨hs, x, hx0, rfl, hsl, hx, hsp⟩
        have hh7 := (k7.keep n5 (by omega)).trans hh6
        have hsx : (hs.map Value.bool)[0]? = some (.bool false) := by
          have h1 : ¬ hold hs ((0 : Nat) : Int) := fun h => hp0 ((hsp _).1 h)
          rw [hold_nat, List.getElem?_eq_getElem (by omega)] at h1
          rw [List.getElem?_map, List.getElem?_eq_getElem (by omega)]
          cases h2 : hs[0]'(by omega) with
          | false => rfl
          | true => exact absurd (by rw [h2]) h1
        have h0v : (0 : Int) < (g.vars.length : Int) := by omega
        simp only [SS, qx5, vun, simprocAttr, hx, h0v, hsx, hh7, Bool.not_false, decide_true, ff_7]
        repeat (first | refine qqm rfl ?_ | ((first | refine qqr ?_ | refine qqt ?_); simp only [SS, qx5, vun, simprocAttr, ff_7]))
        first | refine qqf ?_ ?_ | refine qqg ?_ ?_
        · exact (kk6.trans k7).keep
        · simp only [packed, qv, Nat.reduceEqDiff, ↓reduceIte, fput, ev_tmp, ev_const, ff_7]
          all_goals simp
      · have hU0 : Usd g 0 := (hus 0).1 ((uB_hold (us := us) (v := 0)).1 hu0)
        have K := keeps_of hi hus hws
        have G := (goodG_of okx).red K hU0
        have wgh := wg_red wg K G
        have okh := rightOK_of G
        have hlv := red_vars_len g (uB us) (stB g us ws) (kpB us ws)
        have hww := was_len us g.vars.length
        have hvar := fun k h => red_var (g := g) (us := us) (st := stB g us ws) (kp := kpB us ws) (k := k) h
        have hag := fun us2 ws2 => red_again (us := us2) (ws := ws2) K G
        have hrr := hL.rr
        rw [hLr] at hrr
        have hlr2 : L.length = (redG g (uB us) (stB g us ws) (kpB us ws)).rules.length := by rw [← hLr, List.length_map]
        rw [hlr2] at hrr
        have hta := hT.ra
        have hva := hV.ra
        have hvo : (redG g (uB us) (stB g us ws) (kpB us ws)).vars ≠ [] → Fgn H5 (slp yv (redG g (uB us) (stB g us ws) (kpB us ws)).vars.length) := fun h0 x k cs ty own e1 e2 _ => by
          obtain ⟨_, c⟩ := hV h0
          rw [slp_pos (by intro e; exact h0 (List.eq_nil_of_length_eq_zero e))] at e1
          cases e1
          rw [e2] at c
          rw [(AObj.cells.inj c).2.1]
          kernel_rfl
        have hrat : ∀ (k : Nat) (hk : k < g.rules.length), kpB us ws g.rules[k] = true → (redG g (uB us) (stB g us ws) (kpB us ws)).rules[((g.rules.take k).filter (kpB us ws)).length]? = some (mapR (uB us) (stB g us ws) g.rules[k]) := fun k hk h => by
          show ((g.rules.filter (kpB us ws)).map _)[_]? = _
          rw [List.getElem?_map, filter_at _ _ hk h]; rfl
        have hrlen : (redG g (uB us) (stB g us ws) (kpB us ws)).rules.length = (g.rules.filter (kpB us ws)).length := List.length_map _
        have hnames : ∀ r ∈ g.rules, kpB us ws r = true → ∀ s ∈ r.right, nameB (redG g (uB us) (stB g us ws) (kpB us ws)) (mapS (uB us) (stB g us ws) s) = nameB g s := fun r hr hk s hs => name_red hi hr hs (fun h0 => K.symV hr hk hs h0) (fun h0 => K.symT hr hk hs h0)
        have hleft : ∀ r ∈ g.rules, kpB us ws r = true → (wasL us g.vars.length)[rk (uB us) r.left.toNat]? = some r.left := fun r hr hk => by
          have h0 := hi.left0 r hr
          have h1 := hi.left1 r hr
          have := was_at (us := us) (m := g.vars.length) (i := r.left.toNat) (by omega) (K.left hr hk)
          rw [this]
          congr 1
          omega
        have husd := fun v h => K.usd_all (g := g) v h
        have hmemr : ∀ r ∈ g.rules, kpB us ws r = true → mapR (uB us) (stB g us ws) r ∈ (redG g (uB us) (stB g us ws) (kpB us ws)).rules := fun r hr hk => K.mem hr hk
        generalize redG g (uB us) (stB g us ws) (kpB us ws) = h at *
        have spg : AM.splice [Value.slice none 0 0, Value.slice none 0 0, Value.slice none 0 0] 0 (gcells (slp yt h.terms.length) (slp yv h.vars.length) (slp yr h.rules.length) h) = gcells (slp yt h.terms.length) (slp yv h.vars.length) (slp yr h.rules.length) h := rfl
        have hlh := G.vars
        have hlr3 := G.rules
        have k6 := Kp.new n5 H5 (.cells (gcells (slp yt h.terms.length) (slp yv h.vars.length) (slp yr h.rules.length) h) 25 true)
        have hh6 := hset_at H5 n5 (.cells (gcells (slp yt h.terms.length) (slp yv h.vars.length) (slp yr h.rules.length) h) 25 true)
        have hb6 := (k6.keep n (by omega)).trans hb5
        simp only [SS, qx5, vun, simprocAttr, List.toList_toArray, box_cells, box_one, gc_len, spg, ff_7]
        generalize hset H5 n5 (.cells (gcells (slp yt h.terms.length) (slp yv h.vars.length) (slp yr h.rules.length) h) 25 true) = H6 at *
        have hw6 := k6.wf hw5
        have kk6 := kk5.trans k6
        have hG6 := hGH.keep kk6
        have h6_all := gc_all (slp yt h.terms.length) (slp yv h.vars.length) (slp yr h.rules.length) h
        have h6_len := gc_len (slp yt h.terms.length) (slp yv h.vars.length) (slp yr h.rules.length) h
        have h6_0 := gc_0 (slp yt h.terms.length) (slp yv h.vars.length) (slp yr h.rules.length) h
        have h6_1 := gc_1 (slp yt h.terms.length) (slp yv h.vars.length) (slp yr h.rules.length) h
        have h6_2 := gc_2 (slp yt h.terms.length) (slp yv h.vars.length) (slp yr h.rules.length) h
        have hvo6 : h.vars ≠ [] → Fgn H6 (slp yv h.vars.length) := fun h0 => (hvo h0).kp hw5 k6 fun x k e => by
          obtain ⟨_, c⟩ := hV h0
          rw [slp_pos (by intro e; exact h0 (List.eq_nil_of_length_eq_zero e))] at e
          cases e
          exact live_lt hw5 (live_of c)
        rw [sl_eq, hww, ← hlv]
        repeat (first | refine qqm rfl ?_ | ((first | refine qqr ?_ | refine qqt ?_); simp only [SS, qx5, vun, simprocAttr, hh6, h6_all, h6_len, ff_7]))
        refine AtCall.by (gRight_true hG6 (hta.mono hw5 k6) (hva.mono hw5 k6) (hrr.mono hw5 k6) hvo6 wgh G) ?_
        rintro v n7 H7 k7 rfl
        have hw7 := k7.wf hw6
        have hle7 := k7.le
        have kk7 := kk6.trans k7
        have k57 := k6.trans k7
        have hh7 := (k7.keep n5 (by omega)).trans hh6
        have hb7 := (k7.keep n (by omega)).trans hb6
        have hgh7 : RG H7 (.agg (gcells (slp yt h.terms.length) (slp yv h.vars.length) (slp yr h.rules.length) h).toArray) h := ⟨_, _, _, rfl, hta.mono hw5 k57, hva.mono hw5 k57, hrr.mono hw5 k57⟩
        have hrhne : h.rules ≠ [] := fun h0 => by
          have := okh.count 0 (by have := okh.vars1; omega)
          rw [h0] at this
          exact this rfl
        have hroh : RO Tryz.prog H5 (.agg (gcells (slp yt h.terms.length) (slp yv h.vars.length) (slp yr h.rules.length) h).toArray) := by
          intro a b c g' e x kx sp hp cs ty own hx _
          have e' : gcells _ _ _ h = gcells a b c g' := List.toArray_inj (Value.agg.inj e)
          unfold gcells at e'
          simp only [List.cons.injEq, Value.slice.injEq] at e'
          have hc : slp yr h.rules.length = c := e'.2.2.1.1
          have hl0 : h.rules.length ≠ 0 := fun e0 => hrhne (List.eq_nil_of_length_eq_zero e0)
          obtain ⟨_, c1⟩ := hL.all (fun e0 => hl0 (by rw [← hlr2, e0]; rfl))
          rw [← hc, slp_pos hl0] at hp
          have hz : x = yr := by cases hp; rfl
          subst hz
          rw [c1] at hx
          rw [← (AObj.cells.inj hx).2.1]
          exact isz_44
        have hroh7 := ro_kp hrr hrhne hw5 k57 hroh
        simp only [SS, qx5, vun, simprocAttr, hh7, h6_1, h6_len, Bool.not_true, ff_7]
        repeat (first | refine qqm rfl ?_ | ((first | refine qqr ?_ | refine qqt ?_); simp only [SS, qx5, vun, simprocAttr, hh7, h6_all, h6_len, Bool.not_true, bne_self_eq_false, decide_true, ff_7]))
        refine AtCall.by (useful_gives hw7 hgh7 wgh okh hroh7) ?_
        rintro v n8 H8 k8 ⟨u2, x8, _, hx81, rfl, hu2l, hx8, hu2⟩
        have hw8 := k8.wf hw7
        have hle8 := k8.le
        have kk8 := kk7.trans k8
        have k58 := k57.trans k8
        have hh8 := (k8.keep n5 (by omega)).trans hh7
        have hb8 := (k8.keep n (by omega)).trans hb7
        have hwa := hW.ra
        rw [hww, ← hlv] at hwa
        have hwa8 := hwa.mono hw5 k58
        have hva8 := hva.mono hw5 k58
        have hv8 := hv.mono hw kk8
        simp only [SS, qx5, vun, simprocAttr, ff_7]
        repeat (first | refine qqm rfl ?_ | ((first | refine qqr ?_ | refine qqt ?_); simp only [SS, qx5, vun, simprocAttr, ff_7]))
        refine WK.loop (fun q s => ∃ k : Nat, s.n = n8 ∧ s.H = H8 ∧ s.f 1 = .pointer (some ⟨n, 0, none⟩) ∧ s.f 3 = .pointer (some ⟨n5, 0, none⟩) ∧ s.f 4 = .slice (slp yw h.vars.length) h.vars.length h.vars.length ∧ s.f 62 = .slice (some ⟨x8, 0, none⟩) h.vars.length h.vars.length ∧
          s.f 63 = .int .i64 (h.vars.length : Nat) ∧ s.f 64 = .int .i64 (k : Nat) ∧ k ≤ h.vars.length ∧ q = h.vars.length - k) h.vars.length ?_ ?_
        · exact ⟨0, rfl, rfl, rfl, rfl, rfl, rfl, rfl, rfl, Nat.zero_le _, rfl⟩
        rintro q ⟨f, n9, H9⟩ ⟨k, rfl, rfl, f1, f3, f4, f62, f63, f64, hk, rfl⟩ ih
        simp only at f1 f3 f4 f62 f63 f64 ih k8 hw8 hle8 kk8 k58 hh8 hb8 hx8 hx81 hwa8 hva8 hv8
        by_cases hlt : k < h.vars.length
        · have hkw : IntKind.i64.wrap ((k : Int) + 1) = ((k + 1 : Nat) : Int) := by rw [wrap_in (by omega) (by omega)]; rfl
          obtain ⟨i, hil, hwi, hvi⟩ := hvar k hlt
          have hkl : k < (wasL us g.vars.length).length := by omega
          have hwi' : (wasL us g.vars.length)[k] = (i : Int) := by
            rw [List.getElem?_eq_getElem hkl] at hwi
            exact Option.some.inj hwi
          obtain ⟨z1, kz1, c1, t1, o1, e1, hz1, ez1⟩ := hwa8.at hkl
          rw [hwi'] at ez1
          obtain ⟨z2, kz2, c2, t2, o2, e2, hz2, ez2⟩ := hva8.at hlt
          rw [hvi] at ez2
          obtain ⟨z3, kz3, c3, t3, o3, e3, hz3, ez3⟩ := hv8.at hil
          generalize g.vars[i] = w at *
          have hg1 : (gcells (slp yt h.terms.length) (slp yv h.vars.length) (slp yr h.rules.length) h)[1]? = some (.slice (some ⟨z2, kz2, none⟩) h.vars.length h.vars.length) := by rw [h6_1, e2]
          have hg2 : (gcells pt pv pr g)[1]? = some (.slice (some ⟨z3, kz3, none⟩) g.vars.length g.vars.length) := by rw [gc_1, e3]
          rw [e1] at f4
          have hu2k : (u2.map Value.bool)[k]? = some (.bool true) := by
            have h1 := (hu2 (k : Int)).2 (husd k hlt)
            rw [hold_nat] at h1
            rw [List.getElem?_map, h1]; rfl
          have hku : k < u2.length := by omega
          have hsb : (w.toList == w.toList) = true := by simp
          repeat (first | refine qqm rfl ?_ | ((first | refine qqr ?_ | refine qqt ?_); simp only [SS, qx5, vun, simprocAttr, f1, f3, f4, f62, f63, f64, hlt, hku, hkw, hx8, hu2k, hh8, hb8, hg1, hg2, h6_len, gc_len, hz1, hz2, hz3, ez1, ez2, ez3, hil, hsb, Bool.not_true, ff_7]))
          exact ih (h.vars.length - (k + 1)) (by omega) _ ⟨k + 1, rfl, rfl, f1, f3, by rw [e1]; exact f4, f62, f63, rfl, hlt, rfl⟩
        · repeat (first | refine qqm rfl ?_ | ((first | refine qqr ?_ | refine qqt ?_); simp only [SS, qx5, vun, simprocAttr, f1, f62, f63, f64, hlt, hb8, gc_2, gc_len, ff_7]))
          clear ih f62 f63 f64
          have hr9 := hr.mono hw kk8
          have hrr9 := hrr.mono hw5 k58
          refine WK.loop (fun q s => ∃ k : Nat, Kp n9 H9 s.n s.H ∧ s.f 1 = .pointer (some ⟨n, 0, none⟩) ∧ s.f 3 = .pointer (some ⟨n5, 0, none⟩) ∧ s.f 4 = .slice (slp yw h.vars.length) h.vars.length h.vars.length ∧ s.f 8 = .int .i64 (((g.rules.take k).filter (kpB us ws)).length : Nat) ∧
            s.f 89 = .slice pr g.rules.length g.rules.length ∧ s.f 90 = .int .i64 (g.rules.length : Nat) ∧ s.f 91 = .int .i64 (k : Nat) ∧ k ≤ g.rules.length ∧ q = g.rules.length - k) g.rules.length ?_ ?_
          · exact ⟨0, Kp.refl _ _, f1, f3, f4, rfl, rfl, rfl, rfl, Nat.zero_le _, rfl⟩
          clear f1 f3 f4
          rintro q ⟨f, n10, H10⟩ ⟨k, k10, f1, f3, f4, f8, f89, f90, f91, hk', rfl⟩ ih
          simp only at k10 f1 f3 f4 f8 f89 f90 f91 ih
          have hw10 := k10.wf hw8
          have hle10 := k10.le
          have kk10 := kk8.trans k10
          have k510 := k58.trans k10
          have hh10 := (k10.keep n5 (by omega)).trans hh8
          have hb10 := (k10.keep n (by omega)).trans hb8
          by_cases hlt : k < g.rules.length
          · have hkw : IntKind.i64.wrap ((k : Int) + 1) = ((k + 1 : Nat) : Int) := by rw [wrap_in (by omega) (by omega)]; rfl
            have hkg := fun n' H' (hw' : WF n' H') (hg' : RG H' (.agg (gcells pt pv pr g).toArray) g) => kept_gives (k := k) hw' hg' wg ok hlt hul hwl hus hws
            have hat := hrat k hlt
            obtain ⟨z, kz, ds, tz, oz, p, hpr, hz9, d0, d1, d2, hp9⟩ := hr9.at hlt
            have hz := (k10.keep z (live_lt hw8 (live_of hz9))).trans hz9
            have hzl := live_lt hw10 (live_of hz)
            have d3 := take3 d0 d1 d2
            have d4 := len3 d2
            have hmem := List.getElem_mem hlt
            have hl0 := hi.left0 _ hmem
            have hl1 := hi.left1 _ hmem
            have hri := hi.right _ hmem
            have hrT := hi.rightT _ hmem
            have hnm := hnames _ hmem
            have hlf := hleft _ hmem
            have hmr := hmemr _ hmem
            have hrl24 := (ok.rule k hlt).len
            have htk : g.rules.take (k + 1) = g.rules.take k ++ [g.rules[k]] := List.take_succ_eq_append_getElem hlt
            have hfl : ((g.rules.take (k + 1)).filter (kpB us ws)).length = ((g.rules.take k).filter (kpB us ws)).length + if kpB us ws g.rules[k] then 1 else 0 := by
              rw [htk, List.filter_append, List.length_append]
              congr 1
              by_cases h : kpB us ws g.rules[k] = true <;> simp [h]
            have hcl : ((g.rules.take k).filter (kpB us ws)).length ≤ k := Nat.le_trans (List.length_filter_le _ _) (by rw [List.length_take]; omega)
            generalize ((g.rules.take k).filter (kpB us ws)).length = c at *
            generalize g.rules[k] = r at *
            have kR := Kp.new n10 H10 (.cells [.int .i64 r.left, .slice p r.right.length r.right.length, .float .f64 r.weight] 44 true)
            have bR := hset_at H10 n10 (.cells [.int .i64 r.left, .slice p r.right.length r.right.length, .float .f64 r.weight] 44 true)
            have q0 : ([Value.int .i64 r.left, Value.slice p r.right.length r.right.length, Value.float .f64 r.weight] : List Value)[0]? = some (.int .i64 r.left) := rfl
            have q1 : ([Value.int .i64 r.left, Value.slice p r.right.length r.right.length, Value.float .f64 r.weight] : List Value)[1]? = some (.slice p r.right.length r.right.length) := rfl
            have k11 := k10.trans kR
            have hw11 := kR.wf hw10
            have kk11 := kk10.trans kR
            have k511 := k510.trans kR
            have hh11 := (kR.keep n5 (by omega)).trans hh10
            have hb11 := (kR.keep n (by omega)).trans hb10
            rw [hpr] at f89
            repeat refine qqn rfl ?_
            (refine qqr ?_; simp only [SS, qx5, vun, simprocAttr, f89, f90, f91, hlt, ff_7])
            repeat refine qqn rfl ?_
            refine qqm rfl ?_
            repeat refine qqn rfl ?_
            (refine qqr ?_; simp only [SS, qx5, vun, simprocAttr, f89, f91, hlt, hz, d3, d4, ff_7])
            generalize hset H10 n10 (.cells [.int .i64 r.left, .slice p r.right.length r.right.length, .float .f64 r.weight] 44 true) = H11 at *
            repeat (first | refine qqm rfl ?_ | ((first | refine qqr ?_ | refine qqt ?_); simp only [SS, qx5, vun, simprocAttr, f1, hb11, gc_all, gc_len, ff_7]))
            refine AtCall.by (hkg _ _ hw11 (hg0.mono hw kk11)) ?_
            rintro v n12 H12 k12 rfl
            have hw12 := k12.wf hw11
            have hle12 := k12.le
            have kk12 := kk11.trans k12
            have k512 := k511.trans k12
            have k912 := k11.trans k12
            have hh12 := (k12.keep n5 (by omega)).trans hh11
            have hb12 := (k12.keep n (by omega)).trans hb11
            have bR12 := (k12.keep n10 (by omega)).trans bR
            cases hkp : kpB us ws r with
            | false =>
              rw [hkp] at hfl
              simp only [Bool.false_eq_true, if_false, Nat.add_zero] at hfl
              simp only [SS, qx5, vun, simprocAttr, Bool.not_false, ff_7]
              repeat (first | refine qqm rfl ?_ | ((first | refine qqr ?_ | refine qqt ?_); simp only [SS, qx5, vun, simprocAttr, f91, hkw, ff_7]))
              exact ih (g.rules.length - (k + 1)) (by omega) _ ⟨k + 1, k912, f1, f3, f4, by rw [hfl]; exact f8, by rw [hpr]; exact f89, f90, rfl, hlt, rfl⟩
            | true =>
              rw [hkp] at hfl
              simp only [if_true] at hfl
              have hat' := hat hkp
              obtain ⟨hch, hce⟩ := List.getElem?_eq_some_iff.1 hat'
              have hG2 := G.inG.right _ (hmr hkp)
              have hG3 := G.inG.rightT _ (hmr hkp)
              obtain ⟨z2, kz2, ds2, tz2, oz2, p2, hpr2, hz29, e0, e1, e2, hp29⟩ := hrr9.at hch
              rw [hce] at e0 e1 e2 hp29
              obtain ⟨l, hl⟩ : ∃ l : Nat, r.left = l := ⟨r.left.toNat, by omega⟩
              have e0' : ds2[kz2 + c * 3]? = some (.int .i64 (rk (uB us) l : Nat)) := by rw [e0]; unfold mapR; rw [hl, Int.toNat_natCast]
              have hrl2 : (mapR (uB us) (stB g us ws) r).right.length = r.right.length := List.length_map _
              rw [hrl2] at e1
              have e4 := len3 e2
              have hlf' := hlf hkp
              rw [hl, Int.toNat_natCast] at hlf'
              obtain ⟨hrw, hrwe⟩ := List.getElem?_eq_some_iff.1 hlf'
              have hwa12 := hwa8.mono hw8 k912
              obtain ⟨z3, kz3, c3, t3, o3, e3, hz3, ez3⟩ := hwa12.at hrw
              rw [hrwe] at ez3
              have hrw' : rk (uB us) l < h.vars.length := by omega
              have hz2 := (k912.keep z2 (live_lt hw8 (live_of hz29))).trans hz29
              have hg2 : (gcells (slp yt h.terms.length) (slp yv h.vars.length) (slp yr h.rules.length) h)[2]? = some (.slice (some ⟨z2, kz2, none⟩) h.rules.length h.rules.length) := by rw [h6_2, hpr2]
              rw [e3] at f4
              have hge : ((h.rules.length : Int) ≤ (c : Int)) = False := eq_false (by omega)
              have hcw : IntKind.i64.wrap ((c : Int) + 1) = ((c + 1 : Nat) : Int) := by rw [wrap_in (by omega) (by omega)]; rfl
              have hle11 := kR.le
              simp only [SS, qx5, vun, simprocAttr, Bool.not_true, ff_7]
              repeat (first | refine qqm rfl ?_ | ((first | refine qqr ?_ | refine qqt ?_); simp only [SS, qx5, vun, simprocAttr, f3, f4, f8, hh12, hg2, h6_len, hge, hch, hz2, e0', e1, hl, bR12, q0, q1, hrw', hz3, ez3, decide_true, decide_false, Bool.not_true, ff_7]))
              refine WK.loop (fun q s => ∃ j : Nat, Kp n12 H12 s.n s.H ∧ s.f 1 = .pointer (some ⟨n, 0, none⟩) ∧ s.f 3 = .pointer (some ⟨n5, 0, none⟩) ∧ s.f 4 = .slice (some ⟨z3, kz3, none⟩) h.vars.length h.vars.length ∧ s.f 8 = .int .i64 (c : Nat) ∧ s.f 10 = .pointer (some ⟨n10, 0, none⟩) ∧
                s.f 89 = .slice (some ⟨z, kz, none⟩) g.rules.length g.rules.length ∧ s.f 90 = .int .i64 (g.rules.length : Nat) ∧ s.f 91 = .int .i64 (k : Nat) ∧ s.f 137 = .slice p2 r.right.length r.right.length ∧ s.f 138 = .int .i64 (r.right.length : Nat) ∧ s.f 139 = .int .i64 (j : Nat) ∧ j ≤ r.right.length ∧ q = r.right.length - j) r.right.length ?_ ?_
              · exact ⟨0, Kp.refl _ _, f1, f3, f4, f8, rfl, f89, f90, f91, rfl, rfl, rfl, Nat.zero_le _, rfl⟩
              clear f1 f3 f4 f8 f89 f90 f91
              rintro q' ⟨f, n13, H13⟩ ⟨j, k13, f1, f3, f4, f8, f10, f89, f90, f91, f137, f138, f139, hj, rfl⟩ ih2
              simp only at k13 f1 f3 f4 f8 f10 f89 f90 f91 f137 f138 f139 ih2
              have hw13 := k13.wf hw12
              have hle13 := k13.le
              by_cases hjl : j < r.right.length
              · have hjw : IntKind.i64.wrap ((j : Int) + 1) = ((j + 1 : Nat) : Int) := by rw [wrap_in (by omega) (by omega)]; rfl
                have kk13 := kk12.trans k13
                have k513 := k512.trans k13
                have k913 := k912.trans k13
                have hh13 := (k13.keep n5 (by omega)).trans hh12
                have hb13 := (k13.keep n (by omega)).trans hb12
                have bR13 := (k13.keep n10 (by omega)).trans bR12
                have hp13 := hp9.mono hw8 k913
                have hp213 := hp29.mono hw8 k913
                have hjl2 : j < (mapR (uB us) (stB g us ws) r).right.length := by omega
                have hme : (mapR (uB us) (stB g us ws) r).right[j] = mapS (uB us) (stB g us ws) r.right[j] := List.getElem_map _
                have hm1 := hG2 _ (List.getElem_mem hjl2)
                have hm2 := hG3 _ (List.getElem_mem hjl2)
                have hs1 := hri _ (List.getElem_mem hjl)
                have hs2 := hrT _ (List.getElem_mem hjl)
                have hns := hnm hkp _ (List.getElem_mem hjl)
                obtain ⟨za, ka, ca, ta, oa, ea, hza, eza⟩ := hp13.at hjl
                obtain ⟨zb, kb, cb, tb, ob, eb, hzb, ezb⟩ := hp213.at hjl2
                rw [hme] at hm1 hm2 ezb
                have hvs := mapS_var (u := uB us) (st := stB g us ws) (s := r.right[j])
                generalize mapS (uB us) (stB g us ws) r.right[j] = s' at *
                generalize r.right[j] = s at *
                rw [eb] at f137
                have q1' : ([Value.int .i64 r.left, Value.slice p r.right.length r.right.length, Value.float .f64 r.weight] : List Value)[1]? = some (.slice (some ⟨za, ka, none⟩) r.right.length r.right.length) := by rw [q1, ea]
                repeat (first | refine qqm rfl ?_ | ((first | refine qqr ?_ | refine qqt ?_); simp only [SS, qx5, vun, simprocAttr, f3, f137, f138, f139, hjl, hzb, ezb, hh13, h6_all, h6_len, ff_7]))
                refine AtCall.by (name_gives (s := s') hw13 (hta.mono hw5 k513) (hva.mono hw5 k513) hm1 hm2 ⟨G.vars, G.terms⟩ fun s hs => (G.quotes s hs).2.1) ?_
                rintro v n14 H14 k14 rfl
                have hw14 := k14.wf hw13
                have hle14 := k14.le
                have hb14 := (k14.keep n (by omega)).trans hb13
                have bR14 := (k14.keep n10 (by omega)).trans bR13
                have hza14 := (k14.keep za (live_lt hw13 (live_of hza))).trans hza
                have kk14 := kk13.trans k14
                simp only [SS, qx5, vun, simprocAttr, f1, f10, f139, hjl, hb14, gc_all, gc_len, bR14, q1', hza14, eza, ff_7]
                refine AtCall.by (name_gives (s := s) hw14 (ht.mono hw kk14) (hv.mono hw kk14) hs1 hs2 ⟨ok.vars, ok.terms⟩ fun s hs => ((goodG_of okx).quotes s hs).2.1) ?_
                rintro v n15 H15 k15 rfl
                have hle15 := k15.le
                have bR15 := (k15.keep n10 (by omega)).trans bR14
                have hza15 := (k15.keep za (by have := live_lt hw14 (live_of hza14); omega)).trans hza14
                rw [hns]
                generalize nameB g s = w at *
                have hsb : (w.toList == w.toList) = true := by simp
                simp only [SS, qx5, vun, simprocAttr, hsb, Bool.not_true, ff_7]
                refine AtCall.by (isVar_gives _ _ _) ?_
                rintro v n16 H16 k16 ⟨rfl, rfl, rfl⟩
                simp only [SS, qx5, vun, simprocAttr, f10, f139, hjl, bR15, q1', hza15, eza, ff_7]
                refine AtCall.by (isVar_gives _ _ _) ?_
                rintro v n17 H17 k17 ⟨rfl, rfl, rfl⟩
                rw [hvs]
                have hdd : (decide (0 ≤ s) == decide (0 ≤ s)) = true := by simp
                simp only [SS, qx5, vun, simprocAttr, hdd, Bool.not_true, ff_7]
                repeat (first | refine qqm rfl ?_ | ((first | refine qqr ?_ | refine qqt ?_); simp only [SS, qx5, vun, simprocAttr, f139, hjw, ff_7]))
                exact ih2 (r.right.length - (j + 1)) (by omega) _ ⟨j + 1, (k13.trans k14).trans k15, f1, f3, f4, f8, f10, f89, f90, f91, by rw [eb]; exact f137, f138, rfl, hjl, rfl⟩
              · repeat (first | refine qqm rfl ?_ | ((first | refine qqr ?_ | refine qqt ?_); simp only [SS, qx5, vun, simprocAttr, f8, f91, f137, f138, f139, hjl, hcw, hkw, ff_7]))
                exact ih (g.rules.length - (k + 1)) (by omega) _ ⟨k + 1, k912.trans k13, f1, f3, by rw [e3]; exact f4, by rw [hfl]; rfl, by rw [hpr]; exact f89, f90, rfl, hlt, rfl⟩
          · obtain rfl : k = g.rules.length := by omega
            rw [List.take_of_length_le (Nat.le_refl _), ← hrlen] at f8
            repeat (first | refine qqm rfl ?_ | ((first | refine qqr ?_ | refine qqt ?_); simp only [SS, qx5, vun, simprocAttr, f1, f3, f8, f89, f90, f91, hlt, hh10, h6_all, h6_len, ff_7]))
            refine AtCall.by (reduce_gives hw10 ⟨_, _, _, rfl, hta.mono hw5 k510, hva.mono hw5 k510, hrr.mono hw5 k510⟩ wgh okh (ro_kp hrr hrhne hw5 k510 hroh)) ?_
            rintro v n11 H11 k11 ⟨us3, ws3, h3l, hw3l, hus3, hws3, hred3⟩
            have hw11 := k11.wf hw10
            have hle11 := k11.le
            have k511 := k510.trans k11
            have hh11 := (k11.keep n5 (by omega)).trans hh10
            rcases hred3 with ⟨hu3, rfl⟩ | ⟨hu3, yt3, yv3, yw3, yr3, L3, rfl, hT3, hV3, hW3, hL3, hLr3⟩
            · have := (uB_hold (us := us3) (v := 0)).2 ((hus3 _).2 (husd 0 (by have := okh.vars1; omega)))
              rw [hu3] at this
              cases this
            · have hrr3 := hL3.rr
              have hl3 : L3.length = (redG h (uB us3) (stB h us3 ws3) (kpB us3 ws3)).rules.length := by rw [← hLr3, List.length_map]
              rw [hLr3, hl3] at hrr3
              have hta3 := hT3.ra
              have hva3 := hV3.ra
              rw [hag us3 ws3 hus3 hws3] at hrr3 hta3 hva3 ⊢
              have spg3 : AM.splice [Value.slice none 0 0, Value.slice none 0 0, Value.slice none 0 0] 0 (gcells (slp yt3 h.terms.length) (slp yv3 h.vars.length) (slp yr3 h.rules.length) h) = gcells (slp yt3 h.terms.length) (slp yv3 h.vars.length) (slp yr3 h.rules.length) h := rfl
              have g3_all := gc_all (slp yt3 h.terms.length) (slp yv3 h.vars.length) (slp yr3 h.rules.length) h
              have g3_len := gc_len (slp yt3 h.terms.length) (slp yv3 h.vars.length) (slp yr3 h.rules.length) h
              have k12 := Kp.new n11 H11 (.cells (gcells (slp yt3 h.terms.length) (slp yv3 h.vars.length) (slp yr3 h.rules.length) h) 25 true)
              have hj12 := hset_at H11 n11 (.cells (gcells (slp yt3 h.terms.length) (slp yv3 h.vars.length) (slp yr3 h.rules.length) h) 25 true)
              have hh12 := (k12.keep n5 (by omega)).trans hh11
              have hw12 := k12.wf hw11
              have k512 := k511.trans k12
              simp only [SS, qx5, vun, simprocAttr, List.toList_toArray, box_cells, box_one, gc_len, spg3, ff_7]
              generalize hset H11 n11 (.cells (gcells (slp yt3 h.terms.length) (slp yv3 h.vars.length) (slp yr3 h.rules.length) h) 25 true) = H12 at *
              repeat (first | refine qqm rfl ?_ | ((first | refine qqr ?_ | refine qqt ?_); simp only [SS, qx5, vun, simprocAttr, f3, f8, hh12, hj12, h6_all, h6_2, h6_len, g3_all, g3_len, decide_true, ff_7]))
              refine AtCall.by (gSame_gives hw12 (hta3.mono hw11 k12) (hva3.mono hw11 k12) (hrr3.mono hw11 k12) (hta.mono hw5 k512) (hva.mono hw5 k512) (hrr.mono hw5 k512) wgh) ?_
              rintro v n13 H13 k13 rfl
              simp only [SS, qx5, vun, simprocAttr, ff_7]
              repeat (first | refine qqm rfl ?_ | ((first | refine qqr ?_ | refine qqt ?_); simp only [SS, qx5, vun, simprocAttr, ff_7]))
              first | refine qqf ?_ ?_ | refine qqg ?_ ?_
              · exact (((kk10.trans k11).trans k12).trans k13).keep
              · simp only [packed, qv, Nat.reduceEqDiff, ↓reduceIte, ff_7]
                all_goals simp
end Go.Proofs.YtihjaobjhmmboaaGreatDoor

namespace Go.Proofs.YtihjaobjhmmboaaGreatDoor
open Go.AM
set_option maxRecDepth 100000
theorem und_22 : Tryz.prog.underlying 22 = some (.slice 9) := by kernel_rfl
theorem und_23 : Tryz.prog.underlying 23 = some (.slice 44) := by kernel_rfl
theorem und_28 : Tryz.prog.underlying 28 = some (.slice 3) := by kernel_rfl
theorem und_25 : ∃ f1 f2 f3 : Field, Tryz.prog.underlying 25 = some (.struct #[f1, f2, f3]) ∧ f1.type = 22 ∧ f1.offset = 0 ∧ f2.type = 22 ∧ f2.offset = 1 ∧ f3.type = 23 ∧ f3.offset = 2 :=
 ⟨{ name := "Terms", type := 22, offset := 0, embedded := false, tag := "", pkgPath := "", byteOffset := 0 }, { name := "Vars", type := 22, offset := 1, embedded := false, tag := "", pkgPath := "", byteOffset := 24 },
  { name := "Rules", type := 23, offset := 2, embedded := false, tag := "", pkgPath := "", byteOffset := 48 }, by kernel_rfl, rfl, rfl, rfl, rfl, rfl, rfl⟩
theorem und_44 : ∃ f1 f2 f3 : Field, Tryz.prog.underlying 44 = some (.struct #[f1, f2, f3]) ∧ f1.type = 3 ∧ f1.offset = 0 ∧ f2.type = 28 ∧ f2.offset = 1 ∧ f3.type = 42 ∧ f3.offset = 2 :=
 ⟨{ name := "Left", type := 3, offset := 0, embedded := false, tag := "", pkgPath := "", byteOffset := 0 }, { name := "Right", type := 28, offset := 1, embedded := false, tag := "", pkgPath := "", byteOffset := 8 },
  { name := "Weight", type := 42, offset := 2, embedded := false, tag := "", pkgPath := "", byteOffset := 32 }, by kernel_rfl, rfl, rfl, rfl, rfl, rfl, rfl⟩
theorem gramT : GramT Tryz.prog 25 44 3 9 22 23 28 42 := ⟨und_25, und_44, und_3, und_9, und_22, und_23, und_28, und_42, csz_3, csz_9, csz_22, csz_23, csz_28, csz_42, csz_44, csz_25⟩
theorem own : ownKnob Tryz.prog.godebug = none := by kernel_rfl
theorem laid : laidOutB Tryz.prog = true := by kernel_rfl
end Go.Proofs.YtihjaobjhmmboaaGreatDoor
