/- A part of a proof. Its conditions: none. -/
import Derived.Test.YtihjaobjhmmboaaGreatDoorAmULfCostW
import Derived.Test.YtihjaobjhmmboaaGreatDoorAmULfNullable
set_option linter.all false
namespace Go.Proofs.YtihjaobjhmmboaaGreatDoor
open Go.AM
set_option maxRecDepth 100000
theorem ro_kp {P : Program} {pt pv pr : Option Addr} {g : Gram} {n n' : Nat} {H H' : Heap} (hr : RR H pr g.rules) (hne : g.rules ≠ []) (hw : WF n H) (k : Kp n H n' H') (ho : RO P H (.agg (gcells pt pv pr g).toArray)) : RO P H' (.agg (gcells pt pv pr g).toArray) := by
 intro a b c g' e x kx sp hp cs ty own hx hown
 obtain ⟨z, kz, ds, tz, oz, e1, hz, _⟩ := hr hne
 have e' : gcells pt pv pr g = gcells a b c g' := List.toArray_inj (Value.agg.inj e)
 unfold gcells at e'
 simp only [List.cons.injEq, Value.slice.injEq] at e'
 have hc : pr = c := e'.2.2.1.1
 rw [← hc, e1] at hp
 have hz' : x = z := by cases hp; rfl
 subst hz'
 rw [k.keep x (live_lt hw (live_of hz))] at hx
 exact ho a b c g' e x kz none (by rw [← hc, e1]) cs ty own hx hown
theorem res_cell {P : Program} {s : St} {a b c x : Nat} {ty ty' : TypeId} {c0 c1 c2 : Value} {own : Bool} (ha : s.f a = .pointer (some ⟨x, 0, none⟩)) (hx : s.H x = .cells [c0, c1, c2] ty' own) (hg : aggT P ty = some true) (hc : P.cellsOf ty = 3) :
  aresultsL P s [.cell a ty, .tmp b, .tmp c] = some [.agg #[c0, c1, c2], s.f b, s.f c] := by
 simp [aresultsL, aresult, aload, ha, hx, hg, hc]
theorem rc_take (a b c : Value) : List.take 3 (List.drop 0 [a, b, c]) = [a, b, c] := rfl
theorem rc_take' (a b c : Value) : List.take 3 [a, b, c] = [a, b, c] := rfl
theorem rc_splice (a b c a' b' c' : Value) : AM.splice [a, b, c] 0 [a', b', c'] = [a', b', c'] := rfl
structure R0 (f : Fr) (n o x y m : Nat) : Prop where
 f1 : f 1 = .pointer (some ⟨n, 0, none⟩)
 f2 : f 2 = .pointer (some ⟨n + 1, 0, none⟩)
 f5 : f 5 = .slice (some ⟨x, 0, none⟩) m m
 f6 : f 6 = .slice (some ⟨y, 0, none⟩) m m
 f7 : f 7 = .pointer (some ⟨o, 0, none⟩)
 f9 : f 9 = .slice (some ⟨o + 1, 0, none⟩) m m
set_option maxHeartbeats 16000000 in
theorem reduce_gives {gv : Value} {g : Gram} {n : Nat} {H : Heap} (hw : WF n H) (hg : RG H gv g) (wg : WG g) (ok : RightOK g) (ho : RO Tryz.prog H gv) :
    Gives Tryz.prog 25 [gv] n H fun v n' H' => ∃ us ws : List Bool, us.length = g.vars.length ∧ ws.length = g.vars.length ∧ (∀ v, hold us v ↔ Usd g v) ∧ (∀ v, hold ws v ↔ Prd g v) ∧
      ((uB us 0 = false ∧ v = .tuple #[.agg #[.slice none 0 0, .slice none 0 0, .slice none 0 0], .slice none 0 0, .bool false]) ∨
      (uB us 0 = true ∧ ∃ yt yv yw yr L, let h := redG g (uB us) (stB g us ws) (kpB us ws)
        v = .tuple #[.agg (gcells (slp yt h.terms.length) (slp yv h.vars.length) (slp yr h.rules.length) h).toArray, sl yw (wasL us g.vars.length).length, .bool true] ∧
        OL H' n 9 .string yt h.terms ∧ OL H' n 9 .string yv h.vars ∧ OL H' n 3 (.int .i64) yw (wasL us g.vars.length) ∧ OR H' n 44 3 yr L ∧ L.map (·.1) = h.rules)) := by
  have hg0 := hg
  obtain ⟨pt, pv, pr, rfl, ht, hv, hr⟩ := hg
  refine Gives.of orders ok25 (Nat.le_of_ble_eq_true rfl) ?_
  have hi := ok.inG
  have hv64 := ok.vars
  have hv1 := ok.vars1
  have hrl := ok.rules
  have htl := ok.terms
  have hrne : g.rules ≠ [] := fun h0 => by
    have := ok.count 0 (by omega)
    rw [h0] at this
    exact this rfl
  repeat refine qqn rfl ?_
  (refine qqr ?_; simp only [SS, qx6, vun, simprocAttr, box_cells, box_one, abox, ff_25])
  have k2 : Kp n H (n + 1 + 1) (hset (hset H n (.cells (gcells pt pv pr g) 25 true)) (n + 1) (.cells [.slice none 0 0, .slice none 0 0, .slice none 0 0] 25 true)) := (Kp.new n H _).trans (Kp.new (n + 1) _ _)
  have hb2 : hset (hset H n (.cells (gcells pt pv pr g) 25 true)) (n + 1) (.cells [.slice none 0 0, .slice none 0 0, .slice none 0 0] 25 true) n = _ := (hset_ne _ _ _ (by omega)).trans (hset_at _ _ _)
  have hc2 : hset (hset H n (.cells (gcells pt pv pr g) 25 true)) (n + 1) (.cells [.slice none 0 0, .slice none 0 0, .slice none 0 0] 25 true) (n + 1) = _ := hset_at _ _ _
  generalize hset (hset H n (.cells (gcells pt pv pr g) 25 true)) (n + 1) (.cells [.slice none 0 0, .slice none 0 0, .slice none 0 0] 25 true) = H2 at *
  have hw2 := k2.wf hw
  have ho2 := ro_kp hr hrne hw k2 ho
  repeat (first | refine qqm rfl ?_ | ((first | refine qqr ?_ | refine qqt ?_); simp only [SS, qx6, vun, simprocAttr, hb2, gc_all, gc_len, ff_25]))
  refine AtCall.by (useful_gives hw2 (hg0.mono hw k2) wg ok ho2) ?_
  rintro v n3 H3 k3 ⟨us, x, hx0, hx1, rfl, hul, hx, hus⟩
  have hw3 := k3.wf hw2
  have hle3 := k3.le
  have kk3 := k2.trans k3
  have hb3 := (k3.keep n (by omega)).trans hb2
  have hc3 := (k3.keep (n + 1) (by omega)).trans hc2
  simp only [SS, qx6, vun, simprocAttr, hb3, gc_all, gc_len, ff_25]
  refine AtCall.by (productive_gives hw3 (hg0.mono hw kk3) wg ok) ?_
  rintro v n4 H4 k4 ⟨ws, y, hy0, hy1, rfl, hwl, hy, hws⟩
  have hw4 := k4.wf hw3
  have hle4 := k4.le
  have kk4 := kk3.trans k4
  have hb4 := (k4.keep n (by omega)).trans hb3
  have hc4 := (k4.keep (n + 1) (by omega)).trans hc3
  have hx4 := (k4.keep x (by omega)).trans hx
  have K := keeps_of hi hus hws
  have hnv : (0 : Int) < (g.vars.length : Int) := by omega
  have hus0 : (us.map Value.bool)[0]? = some (.bool (uB us 0)) := by
    unfold uB
    rw [List.getD_eq_getElem?_getD, List.getElem?_map, List.getElem?_eq_getElem (by omega)]; rfl
  simp only [SS, qx6, vun, simprocAttr, ff_25]
  cases hu0 : uB us 0 with
  | false =>
    rw [hu0] at hus0
    repeat (first | refine qqm rfl ?_ | ((first | refine qqr ?_ | refine qqt ?_); simp only [SS, qx6, vun, simprocAttr, hx4, hus0, hnv, box_cells, box_one, hc4, Bool.not_false, ff_25]))
    refine WK.retNil ⟨Or.inr rfl, _, res_cell (x := n + 1) rfl (hset_at _ _ _) agg_25 csz_25, ?_, ?_⟩
    · exact (kk4.set (x := n + 1) _ (by omega) (by omega)).keep
    · exact ⟨us, ws, hul, hwl, hus, hws, .inl ⟨hu0, rfl⟩⟩
  | true =>
    rw [hu0] at hus0
    have hb5 : ∀ o, hset H4 n4 o n = _ := fun o => (hset_ne _ _ _ (by omega)).trans hb4
    have hb6 : ∀ o o', hset (hset H4 n4 o) (n4 + 1) o' n = _ := fun o o' => (hset_ne _ _ _ (by omega)).trans (hb5 o)
    have bv : g.vars.length ≤ bigN := by unfold bigN; omega
    repeat (first | refine qqm rfl ?_ | ((first | refine qqr ?_ | refine qqt ?_); simp only [SS, qx6, vun, simprocAttr, hx4, hus0, hnv, box_cells, box_one, hc4, hb5, hb6, bv, gc_0, gc_1, gc_2, gc_len, Bool.not_true, ff_25]))
    have k6 : Kp n4 H4 (n4 + 1 + 1) (hset (hset H4 n4 (.cells [.slice none 0 0, .slice none 0 0, .slice none 0 0] 25 true)) (n4 + 1) (.cells (rep g.vars.length [.int .i64 (Int.ofNat 0)]) 3 true)) := (Kp.new n4 H4 _).trans (Kp.new (n4 + 1) _ _)
    have o6 : hset (hset H4 n4 (.cells [.slice none 0 0, .slice none 0 0, .slice none 0 0] 25 true)) (n4 + 1) (.cells (rep g.vars.length [.int .i64 (Int.ofNat 0)]) 3 true) n4 = _ := (hset_ne _ _ _ (by omega)).trans (hset_at _ _ _)
    have a6 : hset (hset H4 n4 (.cells [.slice none 0 0, .slice none 0 0, .slice none 0 0] 25 true)) (n4 + 1) (.cells (rep g.vars.length [.int .i64 (Int.ofNat 0)]) 3 true) (n4 + 1) = .cells ((List.replicate g.vars.length (0 : Int)).map (Value.int .i64)) 3 true := by rw [hset_at, rep_int]
    have q : ∀ {a b : Nat}, b ≠ a → ∀ (H : Heap) ob, hset H a ob b = H b := fun h H ob => hset_ne _ _ _ h
    refine WK.loop (fun k s => ∃ (i : Nat) (A : List Int) (yv yw : Nat), Kp n4 H4 s.n s.H ∧ R0 s.f n n4 x y g.vars.length ∧ s.f 8 = sl yw (wasL us i).length ∧ s.f 34 = .slice pv g.vars.length g.vars.length ∧ s.f 35 = .int .i64 (g.vars.length : Nat) ∧ s.f 36 = .int .i64 (i : Nat) ∧ i ≤ g.vars.length ∧
      s.H n4 = .cells [.slice none 0 0, sl yv (pk (uB us) 0 (g.vars.take i)).length, .slice none 0 0] 25 true ∧ s.H (n4 + 1) = .cells (A.map (.int .i64)) 3 true ∧ A.length = g.vars.length ∧ (∀ v, v < i → uB us v = true → A[v]? = some (rk (uB us) v : Int)) ∧
      OL s.H (n4 + 1 + 1) 9 .string yv (pk (uB us) 0 (g.vars.take i)) ∧ OL s.H (n4 + 1 + 1) 3 (.int .i64) yw (wasL us i) ∧ (wasL us i ≠ [] → yv ≠ yw) ∧ k = g.vars.length - i) g.vars.length ?_ ?_
    · exact ⟨0, List.replicate g.vars.length 0, 0, 0, k6, ⟨rfl, rfl, rfl, rfl, rfl, rfl⟩, rfl, rfl, rfl, rfl, Nat.zero_le _, o6, a6, List.length_replicate, (fun v h => absurd h (Nat.not_lt_zero _)), OL.nil, OL.nil, (fun h => absurd rfl h), rfl⟩
    clear k6 o6 a6
    rintro kk ⟨f, n5, H5⟩ ⟨i, A, yv, yw, k5, r0, f8, f34, f35, f36, hi5, o5, a5, hAl, hA, hV, hW, hvw, rfl⟩ ih
    simp only at k5 r0 f8 f34 f35 f36 o5 a5 hV hW ih
    have hw5 := k5.wf hw4
    have hle5 := k5.le
    have ho5 := live_lt hw5 (live_of o5)
    have ha5 := live_lt hw5 (live_of a5)
    have hb5 := (k5.keep n (by omega)).trans hb4
    have hc5 := (k5.keep (n + 1) (by omega)).trans hc4
    have hx5 := (k5.keep x (by omega)).trans hx4
    have hy5 := (k5.keep y (by omega)).trans hy
    have hv5 := (hv.mono hw kk4).mono hw4 k5
    by_cases hlt : i < g.vars.length
    · obtain ⟨z, kz, cs, tz, oz, hpv, hz, ez⟩ := hv5.at hlt
      have hiw : IntKind.i64.wrap ((i : Int) + 1) = ((i + 1 : Nat) : Int) := by rw [wrap_in (by omega) (by omega)]; rfl
      have hui : (us.map Value.bool)[i]? = some (.bool (uB us i)) := by
        unfold uB
        rw [List.getD_eq_getElem?_getD, List.getElem?_map, List.getElem?_eq_getElem (by omega)]; rfl
      have hiu : i < us.length := by omega
      have hpk := pk_take (p := uB us) (l := g.vars) hlt
      have hwk := was_snoc us i
      have hwl' := was_len us i
      have hrk : rk (uB us) i ≤ i := rk_le i
      have hvl := pk_takeLen (p := uB us) (l := g.vars) i hi5
      rw [hpv] at f34
      cases hu : uB us i with
      | false =>
        rw [hu] at hui hpk hwk
        simp only [Bool.false_eq_true, if_false, List.append_nil] at hpk hwk
        repeat (first | refine qqm rfl ?_ | ((first | refine qqr ?_ | refine qqt ?_); simp only [SS, qx6, vun, simprocAttr, f34, f35, f36, r0.f5, hlt, hz, ez, hx5, hiu, hui, hiw, ff_25]))
        exact ih (g.vars.length - (i + 1)) (by omega) _ ⟨i + 1, A, yv, yw, k5, ⟨r0.f1, r0.f2, r0.f5, r0.f6, r0.f7, r0.f9⟩, by rw [hwk]; exact f8, by rw [hpv]; exact f34, f35, rfl, hlt, by rw [hpk]; exact o5, a5, hAl, (fun v hv' hv2 => by
          by_cases e : v = i
          · subst e; rw [hu] at hv2; cases hv2
          · exact hA v (by omega) hv2), by rw [hpk]; exact hV, by rw [hwk]; exact hW, by rw [hwk]; exact hvw, rfl⟩
      | true =>
        rw [hu] at hui hpk hwk
        simp only [if_true] at hpk hwk
        generalize hVV : pk (uB us) 0 (g.vars.take i) = V at *
        generalize hWW : wasL us i = W at *
        by_cases hc : W = []
        · subst hc
          have hV0 : V = [] := List.eq_nil_of_length_eq_zero (by rw [hvl, ← hwl']; rfl)
          subst hV0
          have f8' : f 8 = .slice none 0 0 := f8
          have o5' : H5 n4 = .cells [.slice none 0 0, .slice none 0 0, .slice none 0 0] 25 true := o5
          have hil : i + 1 ≤ A.length := by omega
          repeat (first | refine qqm rfl ?_ | ((first | refine qqr ?_ | refine qqt ?_); simp only [SS, qx6, vun, simprocAttr, f34, f35, f36, f8', r0.f5, r0.f7, r0.f9, hlt, hz, ez, hx5, hiu, hui, hiw, a5, o5', hil, List.length_map, q (show n4 ≠ n4 + 1 by omega), q (show n4 ≠ n5 by omega), q (show n4 ≠ n5 + 1 by omega), q (show n4 ≠ n5 + 1 + 1 by omega), q (show n4 ≠ n5 + 1 + 1 + 1 by omega), ff_25]))
          have kN : Kp n4 H4 (n5 + 1 + 1 + 1 + 1) _ := (((((k5.set (x := n4 + 1) (.cells ((A.map (.int .i64)).set i (.int .i64 ((0 : Nat) : Int))) 3 true) (by omega) (by omega)).trans (Kp.new n5 _ (.cells [.string g.vars[i]] 9 true))).trans (Kp.new (n5 + 1) _ (.cells (List.take 1 (List.drop 0 [.string g.vars[i]])) 9 true))).trans
            (Kp.new (n5 + 1 + 1) _ (.cells [.int .i64 (i : Nat)] 3 true))).trans (Kp.new (n5 + 1 + 1 + 1) _ (.cells (List.take 1 (List.drop 0 [.int .i64 (i : Nat)])) 3 true))).set (x := n4) (.cells [.slice none 0 0, .slice (some ⟨n5 + 1, 0, none⟩) 1 1, .slice none 0 0] 25 true) (by omega) (by omega)
          refine ih (g.vars.length - (i + 1)) (by omega) _ ⟨i + 1, A.set i ((0 : Nat) : Int), n5 + 1, n5 + 1 + 1 + 1, kN, ⟨r0.f1, r0.f2, r0.f5, r0.f6, r0.f7, r0.f9⟩, by rw [hwk]; rfl, by rw [hpv]; exact f34, f35, rfl, hlt, by rw [hpk]; exact hset_at _ _ _, ?_, by rw [List.length_set]; exact hAl, (fun v hv' hv2 => by
            by_cases e : v = i
            · subst e
              rw [List.getElem?_set_self (by omega), ← hwl']; rfl
            · rw [List.getElem?_set_ne (Ne.symm e)]; exact hA v (by omega) hv2), by
            rw [hpk]
            exact OL.snoc ((hset_ne _ _ _ (by omega)).trans ((hset_ne _ _ _ (by omega)).trans ((hset_ne _ _ _ (by omega)).trans (hset_at _ _ _)))) (by omega), by
            rw [hwk]
            exact OL.snoc ((hset_ne _ _ _ (by omega)).trans (hset_at _ _ _)) (by omega), (fun _ => by omega), rfl⟩
          rw [List.map_set]
          exact (hset_ne _ _ _ (by omega)).trans ((hset_ne _ _ _ (by omega)).trans ((hset_ne _ _ _ (by omega)).trans ((hset_ne _ _ _ (by omega)).trans ((hset_ne _ _ _ (by omega)).trans (hset_at _ _ _)))))
        · have hWl : W.length ≠ 0 := fun e => hc (List.eq_nil_of_length_eq_zero e)
          have hV0 : V ≠ [] := fun e => hWl (by rw [hwl', ← hvl, e]; rfl)
          have hVl : V.length ≠ 0 := fun e => hV0 (List.eq_nil_of_length_eq_zero e)
          obtain ⟨hyv, cv⟩ := hV hV0
          obtain ⟨hyw, cw⟩ := hW hc
          have hne := hvw hc
          have hyv1 := live_lt hw5 (live_of cv)
          have hyw1 := live_lt hw5 (live_of cw)
          have f8' : f 8 = .slice (some ⟨yw, 0, none⟩) W.length W.length := f8.trans (sl_pos hWl)
          have o5' : H5 n4 = .cells [.slice none 0 0, .slice (some ⟨yv, 0, none⟩) V.length V.length, .slice none 0 0] 25 true := by rw [o5, sl_pos hVl]
          have hil : i + 1 ≤ A.length := by omega
          have hct1 : [n5].contains yv = false := by simp; omega
          have hct2 : [n5 + 1 + 1].contains yw = false := by simp; omega
          have bV : V.length + 1 ≤ bigN := by unfold bigN; omega
          have bW : W.length + 1 ≤ bigN := by unfold bigN; omega
          have tV : (V.map Value.string).take V.length = V.map Value.string := List.take_of_length_le (by rw [List.length_map]; exact Nat.le_refl _)
          have tW : (W.map (Value.int .i64)).take W.length = W.map (Value.int .i64) := List.take_of_length_le (by rw [List.length_map]; exact Nat.le_refl _)
          repeat (first | refine qqm rfl ?_ | ((first | refine qqr ?_ | refine qqt ?_); simp only [SS, qx6, vun, simprocAttr, f34, f35, f36, f8', r0.f5, r0.f7, r0.f9, hlt, hz, ez, hx5, hiu, hui, hiw, a5, o5', hil, List.length_map, List.drop_zero, cv, cw, hct1, hct2, bV, bW, tV, tW, Nat.le_refl, q (show n4 ≠ n4 + 1 by omega), q (show n4 ≠ n5 by omega), q (show n4 ≠ n5 + 1 by omega), q (show n4 ≠ n5 + 1 + 1 by omega), q (show n4 ≠ n5 + 1 + 1 + 1 by omega), q (show n4 ≠ yv by omega), q (show n4 ≠ yw by omega), q (show yv ≠ n4 + 1 by omega), q (show yv ≠ n5 by omega), q (show yw ≠ n4 + 1 by omega), q (show yw ≠ n5 by omega), q (show yw ≠ n5 + 1 by omega), q (show yw ≠ n5 + 1 + 1 by omega), q (show yw ≠ yv by omega), ff_25]))
          have kN : Kp n4 H4 (n5 + 1 + 1 + 1 + 1) _ := (((((((k5.set (x := n4 + 1) (.cells ((A.map (.int .i64)).set i (.int .i64 (W.length : Nat))) 3 true) (by omega) (by omega)).trans (Kp.new n5 _ (.cells [.string g.vars[i]] 9 true))).set (x := yv) .dead (by omega) (by omega)).trans
            (Kp.new (n5 + 1) _ (.cells (V.map Value.string ++ List.take 1 [.string g.vars[i]]) 9 true))).trans
            (Kp.new (n5 + 1 + 1) _ (.cells [.int .i64 (i : Nat)] 3 true))).set (x := yw) .dead (by omega) (by omega)).trans (Kp.new (n5 + 1 + 1 + 1) _ (.cells (W.map (Value.int .i64) ++ List.take 1 [.int .i64 (i : Nat)]) 3 true))).set (x := n4)
              (.cells [.slice none 0 0, .slice (some ⟨n5 + 1, 0, none⟩) (V.length + 1) (V.length + 1), .slice none 0 0] 25 true) (by omega) (by omega)
          refine ih (g.vars.length - (i + 1)) (by omega) _ ⟨i + 1, A.set i (W.length : Nat), n5 + 1, n5 + 1 + 1 + 1, kN, ⟨r0.f1, r0.f2, r0.f5, r0.f6, r0.f7, r0.f9⟩, by rw [hwk]; exact sl_snoc _, by rw [hpv]; exact f34, f35, rfl, hlt, by rw [hpk, ← sl_snoc]; exact hset_at _ _ _, ?_, by rw [List.length_set]; exact hAl, (fun v hv' hv2 => by
            by_cases e : v = i
            · subst e
              rw [List.getElem?_set_self (by omega), ← hwl']
            · rw [List.getElem?_set_ne (Ne.symm e)]; exact hA v (by omega) hv2), by
            rw [hpk]
            exact OL.snoc ((hset_ne _ _ _ (by omega)).trans ((hset_ne _ _ _ (by omega)).trans ((hset_ne _ _ _ (by omega)).trans ((hset_ne _ _ _ (by omega)).trans (hset_at _ _ _))))) (by omega), by
            rw [hwk]
            exact OL.snoc ((hset_ne _ _ _ (by omega)).trans (hset_at _ _ _)) (by omega), (fun _ => by omega), rfl⟩
          rw [List.map_set]
          exact (hset_ne _ _ _ (by omega)).trans ((hset_ne _ _ _ (by omega)).trans ((hset_ne _ _ _ (by omega)).trans ((hset_ne _ _ _ (by omega)).trans ((hset_ne _ _ _ (by omega)).trans ((hset_ne _ _ _ (by omega)).trans ((hset_ne _ _ _ (by omega)).trans (hset_at _ _ _)))))))
    · obtain rfl : i = g.vars.length := by omega
      rw [List.take_of_length_le (Nat.le_refl _)] at o5 hV
      have bt : g.terms.length ≤ bigN := by unfold bigN; omega
      have ht5 := (ht.mono hw kk4).mono hw4 k5
      repeat (first | refine qqm rfl ?_ | ((first | refine qqr ?_ | refine qqt ?_); simp only [SS, qx6, vun, simprocAttr, r0.f1, f34, f35, f36, Int.lt_irrefl, hb5, gc_0, gc_1, gc_2, gc_len, bt, q (show n ≠ n5 by omega), ff_25]))
      clear ih
      have k6 : Kx (fun z => z = n4) n5 H5 (n5 + 1) (hset H5 n5 (.cells (rep g.terms.length [.int .i64 (Int.ofNat 0)]) 3 true)) := (Kp.new n5 H5 _).kx
      have o6 : hset H5 n5 (.cells (rep g.terms.length [.int .i64 (Int.ofNat 0)]) 3 true) n4 = _ := (hset_ne _ _ _ (by omega)).trans o5
      have b6 : hset H5 n5 (.cells (rep g.terms.length [.int .i64 (Int.ofNat 0)]) 3 true) n5 = .cells ((List.replicate g.terms.length (0 : Int)).map (Value.int .i64)) 3 true := by rw [hset_at, rep_int]
      refine WK.loop (fun k s => ∃ (i : Nat) (B : List Int) (yt : Nat), Kx (fun z => z = n4) n5 H5 s.n s.H ∧ R0 s.f n n4 x y g.vars.length ∧ s.f 8 = sl yw (wasL us g.vars.length).length ∧ s.f 12 = .slice (some ⟨n5, 0, none⟩) g.terms.length g.terms.length ∧
        s.f 66 = .slice pt g.terms.length g.terms.length ∧ s.f 67 = .int .i64 (g.terms.length : Nat) ∧ s.f 68 = .int .i64 (i : Nat) ∧ i ≤ g.terms.length ∧
        s.H n4 = .cells [sl yt (pk (stB g us ws) 0 (g.terms.take i)).length, sl yv (pk (uB us) 0 g.vars).length, .slice none 0 0] 25 true ∧ s.H n5 = .cells (B.map (.int .i64)) 3 true ∧ B.length = g.terms.length ∧ (∀ v, v < i → stB g us ws v = true → B[v]? = some (rk (stB g us ws) v : Int)) ∧
        OL s.H (n5 + 1) 9 .string yt (pk (stB g us ws) 0 (g.terms.take i)) ∧ k = g.terms.length - i) g.terms.length ?_ ?_
      · exact ⟨0, List.replicate g.terms.length 0, 0, k6, ⟨r0.f1, r0.f2, r0.f5, r0.f6, r0.f7, r0.f9⟩, f8, rfl, rfl, rfl, rfl, Nat.zero_le _, o6, b6, List.length_replicate, (fun v h => absurd h (Nat.not_lt_zero _)), OL.nil, rfl⟩
      clear k6 o6 b6 r0 f8 f34 f35 f36
      rintro kk ⟨f, n6, H6⟩ ⟨i, B, yt, k6, r0, f8, f12, f66, f67, f68, hi6, o6, b6, hBl, hB, hT, rfl⟩ ih
      simp only at k6 r0 f8 f12 f66 f67 f68 o6 b6 hT ih
      have hw6 := k6.wf hw5
      have hle6 := k6.le
      have hb6 := live_lt hw6 (live_of b6)
      have hg6 := (k6.keep n (by omega) (by omega)).trans hb5
      have hc6 := (k6.keep (n + 1) (by omega) (by omega)).trans hc5
      have hx6 := (k6.keep x (by omega) (by omega)).trans hx5
      have hy6 := (k6.keep y (by omega) (by omega)).trans hy5
      have kp6 : Kp n4 H4 n6 H6 := ((k5.kx (X := fun z => z = n4)).trans k6).kp (fun z hz e => by omega)
      have ht6 := (ht.mono hw kk4).mono hw4 kp6
      by_cases hlt : i < g.terms.length
      · obtain ⟨z, kz, cs, tz, oz, hpt, hz, ez⟩ := ht6.at hlt
        have hiw : IntKind.i64.wrap ((i : Int) + 1) = ((i + 1 : Nat) : Int) := by rw [wrap_in (by omega) (by omega)]; rfl
        have hnot := bnot_i64 (n := (i : Int)) (by omega) (by omega)
        have hpk := pk_take (p := stB g us ws) (l := g.terms) hlt
        have hrk : rk (stB g us ws) i ≤ i := rk_le i
        have hvl := pk_takeLen (p := stB g us ws) (l := g.terms) i hi6
        rw [hpt] at f66
        repeat (first | refine qqm rfl ?_ | ((first | refine qqr ?_ | refine qqt ?_); simp only [SS, qx6, vun, simprocAttr, r0.f1, r0.f5, r0.f6, f66, f67, f68, hlt, hz, ez, hiw, hnot, hg6, gc_all, gc_len, ff_25]))
        have hst := stands_gives (s := -(i : Int) - 1) hw6 ((hg0.mono hw kk4).mono hw4 kp6) wg hi hx6 hy6 hul hwl
        rw [hul, hwl] at hst
        refine AtCall.by hst ?_
        rintro v n7 H7 k7 rfl
        have hw7 := k7.wf hw6
        have hle7 := k7.le
        have o7 := (k7.keep n4 (by omega)).trans o6
        have b7 := (k7.keep n5 hb6).trans b6
        have hT7 := hT.keep (H' := H7) fun _ h => k7.keep yt (live_lt hw6 h)
        have kk7 := k6.trans k7.kx
        have hstb : standsB us ws g.rules (-(i : Int) - 1) = stB g us ws i := rfl
        rw [hstb]
        cases hu : stB g us ws i with
        | false =>
          rw [hu] at hpk
          simp only [Bool.false_eq_true, if_false, List.append_nil] at hpk
          simp only [SS, qx6, vun, simprocAttr, ff_25]
          repeat (first | refine qqm rfl ?_ | ((first | refine qqr ?_ | refine qqt ?_); simp only [SS, qx6, vun, simprocAttr, f68, hiw, ff_25]))
          exact ih (g.terms.length - (i + 1)) (by omega) _ ⟨i + 1, B, yt, kk7, ⟨r0.f1, r0.f2, r0.f5, r0.f6, r0.f7, r0.f9⟩, f8, f12, by rw [hpt]; exact f66, f67, rfl, hlt, by rw [hpk]; exact o7, b7, hBl, (fun v hv' hv2 => by
            by_cases e : v = i
            · subst e; rw [hu] at hv2; cases hv2
            · exact hB v (by omega) hv2), by rw [hpk]; exact hT7, rfl⟩
        | true =>
          rw [hu] at hpk
          simp only [if_true] at hpk
          generalize hTT : pk (stB g us ws) 0 (g.terms.take i) = T at *
          have hil : i + 1 ≤ B.length := by omega
          by_cases hc : T = []
          · subst hc
            have o7' : H7 n4 = .cells [.slice none 0 0, sl yv (pk (uB us) 0 g.vars).length, .slice none 0 0] 25 true := o7
            simp only [SS, qx6, vun, simprocAttr, ff_25]
            repeat (first | refine qqm rfl ?_ | ((first | refine qqr ?_ | refine qqt ?_); simp only [SS, qx6, vun, simprocAttr, f12, f68, r0.f7, hlt, hiw, o7', b7, hil, List.length_map, q (show n4 ≠ n5 by omega), q (show n4 ≠ n7 by omega), q (show n4 ≠ n7 + 1 by omega), ff_25]))
            have kN : Kx (fun z => z = n4) n5 H5 (n7 + 1 + 1) _ := (((kk7.set (x := n5) (.cells ((B.map (.int .i64)).set i (.int .i64 ((0 : Nat) : Int))) 3 true) (.inr (Nat.le_refl _)) (by omega)).trans (Kp.new n7 _ (.cells [.string g.terms[i]] 9 true)).kx).trans
              (Kp.new (n7 + 1) _ (.cells (List.take 1 (List.drop 0 [.string g.terms[i]])) 9 true)).kx).set (x := n4) (.cells [.slice (some ⟨n7 + 1, 0, none⟩) 1 1, sl yv (pk (uB us) 0 g.vars).length, .slice none 0 0] 25 true) (.inl rfl) (by omega)
            refine ih (g.terms.length - (i + 1)) (by omega) _ ⟨i + 1, B.set i ((0 : Nat) : Int), n7 + 1, kN, ⟨r0.f1, r0.f2, r0.f5, r0.f6, r0.f7, r0.f9⟩, f8, f12, by rw [hpt]; exact f66, f67, rfl, hlt, by rw [hpk]; exact hset_at _ _ _, ?_, by rw [List.length_set]; exact hBl, (fun v hv' hv2 => by
              by_cases e : v = i
              · subst e
                rw [List.getElem?_set_self (by omega), ← hvl]; rfl
              · rw [List.getElem?_set_ne (Ne.symm e)]; exact hB v (by omega) hv2), by
              rw [hpk]
              exact OL.snoc ((hset_ne _ _ _ (by omega)).trans (hset_at _ _ _)) (by omega), rfl⟩
            rw [List.map_set]
            exact (hset_ne _ _ _ (by omega)).trans ((hset_ne _ _ _ (by omega)).trans ((hset_ne _ _ _ (by omega)).trans (hset_at _ _ _)))
          · have hTl : T.length ≠ 0 := fun e => hc (List.eq_nil_of_length_eq_zero e)
            obtain ⟨hyt, ct⟩ := hT7 hc
            have hyt1 := live_lt hw7 (live_of ct)
            have o7' : H7 n4 = .cells [.slice (some ⟨yt, 0, none⟩) T.length T.length, sl yv (pk (uB us) 0 g.vars).length, .slice none 0 0] 25 true := by rw [o7, sl_pos hTl]
            have hct1 : [n7].contains yt = false := by simp; omega
            have bT : T.length + 1 ≤ bigN := by unfold bigN; omega
            have tT : (T.map Value.string).take T.length = T.map Value.string := List.take_of_length_le (by rw [List.length_map]; exact Nat.le_refl _)
            simp only [SS, qx6, vun, simprocAttr, ff_25]
            repeat (first | refine qqm rfl ?_ | ((first | refine qqr ?_ | refine qqt ?_); simp only [SS, qx6, vun, simprocAttr, f12, f68, r0.f7, hlt, hiw, o7', b7, hil, List.length_map, List.drop_zero, ct, hct1, bT, tT, Nat.le_refl, q (show n4 ≠ n5 by omega), q (show n4 ≠ n7 by omega), q (show n4 ≠ n7 + 1 by omega), q (show n4 ≠ yt by omega), q (show yt ≠ n5 by omega), q (show yt ≠ n7 by omega), ff_25]))
            have kN : Kx (fun z => z = n4) n5 H5 (n7 + 1 + 1) _ := ((((kk7.set (x := n5) (.cells ((B.map (.int .i64)).set i (.int .i64 (T.length : Nat))) 3 true) (.inr (Nat.le_refl _)) (by omega)).trans (Kp.new n7 _ (.cells [.string g.terms[i]] 9 true)).kx).set (x := yt) .dead (.inr (by omega)) (by omega)).trans
              (Kp.new (n7 + 1) _ (.cells (T.map Value.string ++ List.take 1 [.string g.terms[i]]) 9 true)).kx).set (x := n4) (.cells [.slice (some ⟨n7 + 1, 0, none⟩) (T.length + 1) (T.length + 1), sl yv (pk (uB us) 0 g.vars).length, .slice none 0 0] 25 true) (.inl rfl) (by omega)
            refine ih (g.terms.length - (i + 1)) (by omega) _ ⟨i + 1, B.set i (T.length : Nat), n7 + 1, kN, ⟨r0.f1, r0.f2, r0.f5, r0.f6, r0.f7, r0.f9⟩, f8, f12, by rw [hpt]; exact f66, f67, rfl, hlt, by rw [hpk, ← sl_snoc]; exact hset_at _ _ _, ?_, by rw [List.length_set]; exact hBl, (fun v hv' hv2 => by
              by_cases e : v = i
              · subst e
                rw [List.getElem?_set_self (by omega), ← hvl]
              · rw [List.getElem?_set_ne (Ne.symm e)]; exact hB v (by omega) hv2), by
              rw [hpk]
              exact OL.snoc ((hset_ne _ _ _ (by omega)).trans (hset_at _ _ _)) (by omega), rfl⟩
            rw [List.map_set]
            exact (hset_ne _ _ _ (by omega)).trans ((hset_ne _ _ _ (by omega)).trans ((hset_ne _ _ _ (by omega)).trans ((hset_ne _ _ _ (by omega)).trans (hset_at _ _ _))))
      · obtain rfl : i = g.terms.length := by omega
        rw [List.take_of_length_le (Nat.le_refl _)] at o6 hT
        repeat (first | refine qqm rfl ?_ | ((first | refine qqr ?_ | refine qqt ?_); simp only [SS, qx6, vun, simprocAttr, r0.f1, f66, f67, f68, Int.lt_irrefl, hg6, gc_0, gc_1, gc_2, gc_len, ff_25]))
        clear ih
        have hg66 : RG H6 (.agg (gcells pt pv pr g).toArray) g := (hg0.mono hw kk4).mono hw4 kp6
        have hr4 : RR H4 pr g.rules := hr.mono hw kk4
        clear kp6
        refine WK.loop (fun k s => ∃ (i : Nat) (L : List (GRule × Nat)) (yr : Nat), Kx (fun z => z = n4) n6 H6 s.n s.H ∧ R0 s.f n n4 x y g.vars.length ∧ s.f 8 = sl yw (wasL us g.vars.length).length ∧ s.f 12 = .slice (some ⟨n5, 0, none⟩) g.terms.length g.terms.length ∧
          s.f 93 = .slice pr g.rules.length g.rules.length ∧ s.f 94 = .int .i64 (g.rules.length : Nat) ∧ s.f 95 = .int .i64 (i : Nat) ∧ i ≤ g.rules.length ∧
          s.H n4 = .cells [sl yt (pk (stB g us ws) 0 g.terms).length, sl yv (pk (uB us) 0 g.vars).length, sl yr L.length] 25 true ∧ OR s.H n6 44 3 yr L ∧ L.map (·.1) = ((g.rules.take i).filter (kpB us ws)).map (mapR (uB us) (stB g us ws)) ∧ k = g.rules.length - i) g.rules.length ?_ ?_
        · exact ⟨0, [], 0, Kx.refl _ _ _, ⟨r0.f1, r0.f2, r0.f5, r0.f6, r0.f7, r0.f9⟩, f8, f12, rfl, rfl, rfl, Nat.zero_le _, o6, OR.nil, rfl, rfl⟩
        clear r0 f8 f12 f66 f67 f68
        rintro kk ⟨f, n7, H7⟩ ⟨i, L, yr, k7, r0, f8, f12, f93, f94, f95, hi7, o7, hL, hLr, rfl⟩ ih
        simp only at k7 r0 f8 f12 f93 f94 f95 o7 hL ih
        have hw7 := k7.wf hw6
        have hle7 := k7.le
        have kx7 := k6.trans k7
        have kp7 : Kp n4 H4 n7 H7 := ((k5.kx (X := fun z => z = n4)).trans kx7).kp (fun z hz e => by omega)
        by_cases hlt : i < g.rules.length
        · obtain ⟨z, kz, ds, tz, oz, p, hpr, hz0, d0, d1, d2, hp4⟩ := hr4.at hlt
          have hz := (kp7.keep z (live_lt hw4 (live_of hz0))).trans hz0
          have d3 := take3 d0 d1 d2
          have d4 := len3 d2
          have hmem := List.getElem_mem hlt
          have hl0 := hi.left0 _ hmem
          have hl1 := hi.left1 _ hmem
          have hri := hi.right _ hmem
          have hrl' := (ok.rule i hlt).len
          have hrw := (wg.right _ hmem).1
          have htk : g.rules.take (i + 1) = g.rules.take i ++ [g.rules[i]] := List.take_succ_eq_append_getElem hlt
          have hiw : IntKind.i64.wrap ((i : Int) + 1) = ((i + 1 : Nat) : Int) := by rw [wrap_in (by omega) (by omega)]; rfl
          have hfl : ((g.rules.take (i + 1)).filter (kpB us ws)).map (mapR (uB us) (stB g us ws)) = ((g.rules.take i).filter (kpB us ws)).map (mapR (uB us) (stB g us ws)) ++ if kpB us ws g.rules[i] then [mapR (uB us) (stB g us ws) g.rules[i]] else [] := by
            rw [htk, List.filter_append, List.map_append]
            congr 1
            by_cases h : kpB us ws g.rules[i] = true <;> simp [h]
          have hsV : kpB us ws g.rules[i] = true → ∀ s ∈ g.rules[i].right, 0 ≤ s → uB us s.toNat = true := fun h s hs h0 => K.symV hmem h hs h0
          have hsT : kpB us ws g.rules[i] = true → ∀ s ∈ g.rules[i].right, s < 0 → stB g us ws (-s - 1).toNat = true := fun h s hs h0 => K.symT hmem h hs h0
          have hsL : kpB us ws g.rules[i] = true → uB us g.rules[i].left.toNat = true := fun h => K.left hmem h
          have hrT := hi.rightT _ hmem
          generalize g.rules[i] = r at *
          obtain ⟨l, hl⟩ : ∃ l : Nat, r.left = l := ⟨r.left.toNat, by omega⟩
          have hll : l < us.length := by omega
          have hgu : (us.map Value.bool)[l]? = some (.bool us[l]) := by rw [List.getElem?_map, List.getElem?_eq_getElem hll]; rfl
          have hkl : kpB us ws r = (us[l] && prdB r.right ws) := by unfold kpB; rw [hl, Int.toNat_natCast, List.getD_eq_getElem?_getD, List.getElem?_eq_getElem hll]; rfl
          have kR := Kp.new n7 H7 (.cells [.int .i64 r.left, .slice p r.right.length r.right.length, .float .f64 r.weight] 44 true)
          have bR := hset_at H7 n7 (.cells [.int .i64 r.left, .slice p r.right.length r.right.length, .float .f64 r.weight] 44 true)
          have kx8 := k7.trans kR.kx
          have kp8 := kp7.trans kR
          have hL8 := hL.keep (H' := hset H7 n7 (.cells [.int .i64 r.left, .slice p r.right.length r.right.length, .float .f64 r.weight] 44 true)) fun z _ h => kR.keep z (live_lt hw7 h)
          have q0 : ([Value.int .i64 r.left, Value.slice p r.right.length r.right.length, Value.float .f64 r.weight] : List Value)[0]? = some (.int .i64 r.left) := rfl
          have q1 : ([Value.int .i64 r.left, Value.slice p r.right.length r.right.length, Value.float .f64 r.weight] : List Value)[1]? = some (.slice p r.right.length r.right.length) := rfl
          have q2 : ([Value.int .i64 r.left, Value.slice p r.right.length r.right.length, Value.float .f64 r.weight] : List Value)[2]? = some (.float .f64 r.weight) := rfl
          have ho7 := live_lt hw7 (live_of o7)
          have o8 := (kR.keep n4 (by omega)).trans o7
          generalize hR : hset H7 n7 (.cells [.int .i64 r.left, .slice p r.right.length r.right.length, .float .f64 r.weight] 44 true) = H8 at *
          have hw8 := kR.wf hw7
          rw [hpr] at f93
          have next0 : kpB us ws r = false → ∀ (f' : Fr) (n' : Nat) (H' : Heap), Kx (fun z => z = n4) n6 H6 n' H' → Kp (n7 + 1) H8 n' H' → R0 f' n n4 x y g.vars.length → f' 8 = sl yw (wasL us g.vars.length).length → f' 12 = .slice (some ⟨n5, 0, none⟩) g.terms.length g.terms.length →
              f' 93 = .slice (some ⟨z, kz, none⟩) g.rules.length g.rules.length → f' 94 = .int .i64 (g.rules.length : Nat) → f' 95 = .int .i64 ((i + 1 : Nat) : Nat) → _ := fun hk f' n' H' kx kp r0' g8 g12 g93 g94 g95 =>
            ih (g.rules.length - (i + 1)) (by omega) ⟨f', n', H'⟩ ⟨i + 1, L, yr, kx, r0', g8, g12, by rw [hpr]; exact g93, g94, g95, hlt, (kp.keep n4 (by omega)).trans o8, hL8.keep fun z _ h => kp.keep z (live_lt hw8 h), by rw [hfl, hk]; simpa using hLr, rfl⟩
          repeat refine qqn rfl ?_
          (refine qqr ?_; simp only [SS, qx6, vun, simprocAttr, f93, f94, f95, hlt, ff_25])
          repeat refine qqn rfl ?_
          refine qqm rfl ?_
          repeat refine qqn rfl ?_
          (refine qqr ?_; simp only [SS, qx6, vun, simprocAttr, f93, f95, hlt, hz, d3, d4, hR, ff_25])
          have hlv : l < g.vars.length := by omega
          have hx8 := (kp8.keep x (by omega)).trans hx4
          have hy8 := (kp8.keep y (by omega)).trans hy
          have hwh := wholeU_gives (l := (l : Int)) (wt := r.weight) (right := r.right) hw8 (hp4.mono hw4 kp8) hy8 hrw (fun s hs => by rw [hwl]; exact hri s hs)
          rw [hwl] at hwh
          cases hu : us[l]
          · rw [hu] at hgu
            repeat (first | refine qqm rfl ?_ | ((first | refine qqr ?_ | refine qqt ?_); simp only [SS, qx6, vun, simprocAttr, r0.f5, f95, hl, bR, q0, hx8, hll, hlv, hgu, hiw, ff_25]))
            exact next0 (by rw [hkl, hu]; rfl) _ _ _ kx8 (Kp.refl _ _) ⟨r0.f1, r0.f2, r0.f5, r0.f6, r0.f7, r0.f9⟩ f8 f12 f93 f94 rfl
          · rw [hu] at hgu
            repeat (first | refine qqm rfl ?_ | ((first | refine qqr ?_ | refine qqt ?_); simp only [SS, qx6, vun, simprocAttr, r0.f5, r0.f6, f95, hl, bR, q0, hx8, hll, hlv, hgu, hiw, ff_25]))
            refine AtCall.by hwh ?_
            rintro v n9 H9 k9 rfl
            have hw9 := k9.wf hw8
            have hle9 := k9.le
            have kx9 := kx8.trans k9.kx
            cases hpr' : prdB r.right ws
            · simp only [SS, qx6, vun, simprocAttr, ff_25]
              repeat (first | refine qqm rfl ?_ | ((first | refine qqr ?_ | refine qqt ?_); simp only [SS, qx6, vun, simprocAttr, f95, hiw, ff_25]))
              exact next0 (by rw [hkl, hu, hpr']; rfl) _ _ _ kx9 k9 ⟨r0.f1, r0.f2, r0.f5, r0.f6, r0.f7, r0.f9⟩ f8 f12 f93 f94 rfl
            · have hkt : kpB us ws r = true := by rw [hkl, hu, hpr']; rfl
              clear next0
              have kp9 := kp8.trans k9
              have bR9 := (k9.keep n7 (by omega)).trans bR
              have o9 := (k9.keep n4 (by omega)).trans o8
              have hL9 := hL8.keep (H' := H9) fun z _ h => k9.keep z (live_lt hw8 h)
              have hp9 := hp4.mono hw4 kp9
              have a9 := (kx9.keep (n4 + 1) (by omega) (by omega)).trans ((k6.keep (n4 + 1) ha5 (by omega)).trans a5)
              have b9 := (kx9.keep n5 hb6 (by omega)).trans b6
              have hAg : (A.map (Value.int .i64))[l]? = some (.int .i64 (rk (uB us) l : Nat)) := by
                have := hA l hlv (by have := hsL hkt; rwa [hl, Int.toNat_natCast] at this)
                rw [List.getElem?_map, this]; rfl
              have hlA : l < A.length := by omega
              simp only [SS, qx6, vun, simprocAttr, ff_25]
              repeat (first | refine qqm rfl ?_ | ((first | refine qqr ?_ | refine qqt ?_); simp only [SS, qx6, vun, simprocAttr, r0.f9, f95, hl, hlv, hiw, bR9, q0, q1, q2, a9, hAg, hlA, q (show n7 ≠ n9 by omega), ff_25]))
              have k10 : Kp n9 H9 (n9 + 1) (hset H9 n9 (.cells [.int .i64 (rk (uB us) l : Nat), .slice none 0 0, .float .f64 r.weight] 44 true)) := Kp.new n9 H9 _
              refine WK.loop (fun k s => ∃ (j yx : Nat), Kp n9 H9 s.n s.H ∧ R0 s.f n n4 x y g.vars.length ∧ s.f 8 = sl yw (wasL us g.vars.length).length ∧ s.f 12 = .slice (some ⟨n5, 0, none⟩) g.terms.length g.terms.length ∧
                s.f 93 = .slice (some ⟨z, kz, none⟩) g.rules.length g.rules.length ∧ s.f 94 = .int .i64 (g.rules.length : Nat) ∧ s.f 95 = .int .i64 (i : Nat) ∧ s.f 17 = .pointer (some ⟨n9, 0, none⟩) ∧ s.f 120 = .slice p r.right.length r.right.length ∧ s.f 121 = .int .i64 (r.right.length : Nat) ∧ s.f 122 = .int .i64 (j : Nat) ∧ j ≤ r.right.length ∧
                s.H n9 = .cells [.int .i64 (rk (uB us) l : Nat), sl yx ((r.right.take j).map (mapS (uB us) (stB g us ws))).length, .float .f64 r.weight] 44 true ∧ OL s.H (n9 + 1) 3 (.int .i64) yx ((r.right.take j).map (mapS (uB us) (stB g us ws))) ∧ k = r.right.length - j) r.right.length ?_ ?_
              · exact ⟨0, 0, k10, ⟨r0.f1, r0.f2, r0.f5, r0.f6, r0.f7, r0.f9⟩, f8, f12, f93, f94, f95, rfl, rfl, rfl, rfl, Nat.zero_le _, hset_at _ _ _, OL.nil, rfl⟩
              clear k10 r0 f8 f12 f93 f94 f95
              rintro kk2 ⟨f, n10, H10⟩ ⟨j, yx, k10, r0, f8, f12, f93, f94, f95, f17, f120, f121, f122, hj, x10, hX, rfl⟩ ih2
              simp only at k10 r0 f8 f12 f93 f94 f95 f17 f120 f121 f122 x10 hX ih2
              have hw10 := k10.wf hw9
              have hle10 := k10.le
              have hxl10 := live_lt hw10 (live_of x10)
              have hp10 := hp9.mono hw9 k10
              have a10 := (k10.keep (n4 + 1) (by omega)).trans a9
              have b10 := (k10.keep n5 (by omega)).trans b9
              by_cases hjl : j < r.right.length
              · obtain ⟨zx, kx, dx, tx, ox, hpp, hzx, ex⟩ := hp10.at hjl
                have hjw : IntKind.i64.wrap ((j : Int) + 1) = ((j + 1 : Nat) : Int) := by rw [wrap_in (by omega) (by omega)]; rfl
                have hsm := List.getElem_mem hjl
                have hs0 := hsV hkt _ hsm
                have hs1 := hsT hkt _ hsm
                have hs2 := hri _ hsm
                have hs3 := hrT _ hsm
                have hmp : (r.right.take (j + 1)).map (mapS (uB us) (stB g us ws)) = (r.right.take j).map (mapS (uB us) (stB g us ws)) ++ [mapS (uB us) (stB g us ws) r.right[j]] := by
                  rw [List.take_succ_eq_append_getElem hjl, List.map_append]; rfl
                have hXl : ((r.right.take j).map (mapS (uB us) (stB g us ws))).length ≤ j := by rw [List.length_map, List.length_take]; omega
                generalize r.right[j] = s at *
                generalize (r.right.take j).map (mapS (uB us) (stB g us ws)) = X at *
                rw [hpp] at f120
                by_cases h0 : 0 ≤ s
                · obtain ⟨u, rfl⟩ := Int.eq_ofNat_of_zero_le h0
                  have hu' := hs0 (by omega)
                  rw [Int.toNat_natCast] at hu'
                  have huA : u < A.length := by omega
                  have huv : u < g.vars.length := by omega
                  have hAu : (A.map (Value.int .i64))[u]? = some (.int .i64 (rk (uB us) u : Nat)) := by
                    rw [List.getElem?_map, hA u huv hu']; rfl
                  have hm : mapS (uB us) (stB g us ws) (u : Nat) = (rk (uB us) u : Nat) := by unfold mapS; rw [if_pos (by omega), Int.toNat_natCast]
                  rw [hm] at hmp
                  repeat (first | refine qqm rfl ?_ | ((first | refine qqr ?_ | refine qqt ?_); simp only [SS, qx6, vun, simprocAttr, f120, f121, f122, hjl, hzx, ex, ff_25]))
                  refine AtCall.by (isVar_gives _ _ _) ?_
                  rintro v n11 H11 k11 ⟨rfl, rfl, rfl⟩
                  by_cases hc : X = []
                  · subst hc
                    have x10' : H11 n9 = .cells [.int .i64 (rk (uB us) l : Nat), .slice none 0 0, .float .f64 r.weight] 44 true := x10
                    simp only [SS, qx6, vun, simprocAttr, ff_25]
                    repeat (first | refine qqm rfl ?_ | ((first | refine qqr ?_ | refine qqt ?_); simp only [SS, qx6, vun, simprocAttr, r0.f9, huA, huv, hAu, a10, f17, f122, x10', hjw, List.length_map, h0, decide_true, q (show n9 ≠ n11 by omega), q (show n9 ≠ n11 + 1 by omega), ff_25]))
                    have kN : Kp n9 H9 (n11 + 1 + 1) _ := ((k10.trans (Kp.new n11 _ (.cells [.int .i64 (rk (uB us) u : Nat)] 3 true))).trans (Kp.new (n11 + 1) _ (.cells (List.take 1 (List.drop 0 [.int .i64 (rk (uB us) u : Nat)])) 3 true))).set (x := n9) (.cells [.int .i64 (rk (uB us) l : Nat), .slice (some ⟨n11 + 1, 0, none⟩) 1 1, .float .f64 r.weight] 44 true) (Nat.le_refl _) (by omega)
                    refine ih2 (r.right.length - (j + 1)) (by omega) _ ⟨j + 1, n11 + 1, kN, ⟨r0.f1, r0.f2, r0.f5, r0.f6, r0.f7, r0.f9⟩, f8, f12, f93, f94, f95, f17, by rw [hpp]; exact f120, f121, rfl, hjl, by rw [hmp]; exact hset_at _ _ _, ?_, rfl⟩
                    rw [hmp]
                    exact OL.snoc ((hset_ne _ _ _ (by omega)).trans (hset_at _ _ _)) (by omega)
                  · have hXl' : X.length ≠ 0 := fun e => hc (List.eq_nil_of_length_eq_zero e)
                    obtain ⟨hyx, cx⟩ := hX hc
                    have hyx1 := live_lt hw10 (live_of cx)
                    have x10' : H11 n9 = .cells [.int .i64 (rk (uB us) l : Nat), .slice (some ⟨yx, 0, none⟩) X.length X.length, .float .f64 r.weight] 44 true := by rw [x10, sl_pos hXl']
                    have hct1 : [n11].contains yx = false := by simp; omega
                    have bX : X.length + 1 ≤ bigN := by unfold bigN; omega
                    have tX : (X.map (Value.int .i64)).take X.length = X.map (Value.int .i64) := List.take_of_length_le (by rw [List.length_map]; exact Nat.le_refl _)
                    simp only [SS, qx6, vun, simprocAttr, ff_25]
                    repeat (first | refine qqm rfl ?_ | ((first | refine qqr ?_ | refine qqt ?_); simp only [SS, qx6, vun, simprocAttr, r0.f9, huA, huv, hAu, a10, f17, f122, x10', hjw, List.length_map, List.drop_zero, h0, decide_true, cx, hct1, bX, tX, Nat.le_refl, q (show n9 ≠ n11 by omega), q (show n9 ≠ n11 + 1 by omega), q (show n9 ≠ yx by omega), q (show yx ≠ n11 by omega), ff_25]))
                    have kN : Kp n9 H9 (n11 + 1 + 1) _ := (((k10.trans (Kp.new n11 _ (.cells [.int .i64 (rk (uB us) u : Nat)] 3 true))).set (x := yx) .dead (by omega) (by omega)).trans (Kp.new (n11 + 1) _ (.cells (X.map (Value.int .i64) ++ List.take 1 [.int .i64 (rk (uB us) u : Nat)]) 3 true))).set (x := n9) (.cells [.int .i64 (rk (uB us) l : Nat), .slice (some ⟨n11 + 1, 0, none⟩) (X.length + 1) (X.length + 1), .float .f64 r.weight] 44 true) (Nat.le_refl _) (by omega)
                    refine ih2 (r.right.length - (j + 1)) (by omega) _ ⟨j + 1, n11 + 1, kN, ⟨r0.f1, r0.f2, r0.f5, r0.f6, r0.f7, r0.f9⟩, f8, f12, f93, f94, f95, f17, by rw [hpp]; exact f120, f121, rfl, hjl, by rw [hmp, ← sl_snoc]; exact hset_at _ _ _, ?_, rfl⟩
                    rw [hmp]
                    exact OL.snoc ((hset_ne _ _ _ (by omega)).trans (hset_at _ _ _)) (by omega)
                · obtain ⟨t, ht0⟩ : ∃ t : Nat, -s - 1 = t := ⟨(-s - 1).toNat, by omega⟩
                  have ht' := hs1 (by omega)
                  rw [ht0, Int.toNat_natCast] at ht'
                  have htv : t < g.terms.length := by omega
                  have htB : t < B.length := by omega
                  have hBt : (B.map (Value.int .i64))[t]? = some (.int .i64 (rk (stB g us ws) t : Nat)) := by
                    rw [List.getElem?_map, hB t htv ht']; rfl
                  have hrk := rk_le (p := stB g us ws) t
                  have hn1 := bnot_i64 (n := s) (by omega) (by omega)
                  rw [ht0] at hn1
                  have hn2 := bnot_i64 (n := (rk (stB g us ws) t : Nat)) (by omega) (by omega)
                  have hm : mapS (uB us) (stB g us ws) s = -(rk (stB g us ws) t : Nat) - 1 := by unfold mapS; rw [if_neg h0, ht0, Int.toNat_natCast]
                  have h0' : (0 ≤ s) = False := eq_false h0
                  rw [hm] at hmp
                  repeat (first | refine qqm rfl ?_ | ((first | refine qqr ?_ | refine qqt ?_); simp only [SS, qx6, vun, simprocAttr, f120, f121, f122, hjl, hzx, ex, ff_25]))
                  refine AtCall.by (isVar_gives _ _ _) ?_
                  rintro v n11 H11 k11 ⟨rfl, rfl, rfl⟩
                  by_cases hc : X = []
                  · subst hc
                    have x10' : H11 n9 = .cells [.int .i64 (rk (uB us) l : Nat), .slice none 0 0, .float .f64 r.weight] 44 true := x10
                    simp only [SS, qx6, vun, simprocAttr, h0', decide_false, ff_25]
                    repeat (first | refine qqm rfl ?_ | ((first | refine qqr ?_ | refine qqt ?_); simp only [SS, qx6, vun, simprocAttr, f12, htv, htB, hBt, b10, hn1, hn2, f17, f122, x10', hjw, List.length_map, h0', decide_false, q (show n9 ≠ n11 by omega), q (show n9 ≠ n11 + 1 by omega), ff_25]))
                    have kN : Kp n9 H9 (n11 + 1 + 1) _ := ((k10.trans (Kp.new n11 _ (.cells [.int .i64 (-((rk (stB g us ws) t : Nat) : Int) - 1)] 3 true))).trans (Kp.new (n11 + 1) _ (.cells (List.take 1 (List.drop 0 [.int .i64 (-((rk (stB g us ws) t : Nat) : Int) - 1)])) 3 true))).set (x := n9) (.cells [.int .i64 (rk (uB us) l : Nat), .slice (some ⟨n11 + 1, 0, none⟩) 1 1, .float .f64 r.weight] 44 true) (Nat.le_refl _) (by omega)
                    refine ih2 (r.right.length - (j + 1)) (by omega) _ ⟨j + 1, n11 + 1, kN, ⟨r0.f1, r0.f2, r0.f5, r0.f6, r0.f7, r0.f9⟩, f8, f12, f93, f94, f95, f17, by rw [hpp]; exact f120, f121, rfl, hjl, by rw [hmp]; exact hset_at _ _ _, ?_, rfl⟩
                    rw [hmp]
                    exact OL.snoc ((hset_ne _ _ _ (by omega)).trans (hset_at _ _ _)) (by omega)
                  · have hXl' : X.length ≠ 0 := fun e => hc (List.eq_nil_of_length_eq_zero e)
                    obtain ⟨hyx, cx⟩ := hX hc
                    have hyx1 := live_lt hw10 (live_of cx)
                    have x10' : H11 n9 = .cells [.int .i64 (rk (uB us) l : Nat), .slice (some ⟨yx, 0, none⟩) X.length X.length, .float .f64 r.weight] 44 true := by rw [x10, sl_pos hXl']
                    have hct1 : [n11].contains yx = false := by simp; omega
                    have bX : X.length + 1 ≤ bigN := by unfold bigN; omega
                    have tX : (X.map (Value.int .i64)).take X.length = X.map (Value.int .i64) := List.take_of_length_le (by rw [List.length_map]; exact Nat.le_refl _)
                    simp only [SS, qx6, vun, simprocAttr, h0', decide_false, ff_25]
                    repeat (first | refine qqm rfl ?_ | ((first | refine qqr ?_ | refine qqt ?_); simp only [SS, qx6, vun, simprocAttr, f12, htv, htB, hBt, b10, hn1, hn2, f17, f122, x10', hjw, List.length_map, List.drop_zero, h0', decide_false, cx, hct1, bX, tX, Nat.le_refl, q (show n9 ≠ n11 by omega), q (show n9 ≠ n11 + 1 by omega), q (show n9 ≠ yx by omega), q (show yx ≠ n11 by omega), ff_25]))
                    have kN : Kp n9 H9 (n11 + 1 + 1) _ := (((k10.trans (Kp.new n11 _ (.cells [.int .i64 (-((rk (stB g us ws) t : Nat) : Int) - 1)] 3 true))).set (x := yx) .dead (by omega) (by omega)).trans (Kp.new (n11 + 1) _ (.cells (X.map (Value.int .i64) ++ List.take 1 [.int .i64 (-((rk (stB g us ws) t : Nat) : Int) - 1)]) 3 true))).set (x := n9) (.cells [.int .i64 (rk (uB us) l : Nat), .slice (some ⟨n11 + 1, 0, none⟩) (X.length + 1) (X.length + 1), .float .f64 r.weight] 44 true) (Nat.le_refl _) (by omega)
                    refine ih2 (r.right.length - (j + 1)) (by omega) _ ⟨j + 1, n11 + 1, kN, ⟨r0.f1, r0.f2, r0.f5, r0.f6, r0.f7, r0.f9⟩, f8, f12, f93, f94, f95, f17, by rw [hpp]; exact f120, f121, rfl, hjl, by rw [hmp, ← sl_snoc]; exact hset_at _ _ _, ?_, rfl⟩
                    rw [hmp]
                    exact OL.snoc ((hset_ne _ _ _ (by omega)).trans (hset_at _ _ _)) (by omega)
              · obtain rfl : j = r.right.length := by omega
                rw [List.take_of_length_le (Nat.le_refl _)] at x10 hX
                rw [sl_eq] at x10
                have kx10 := kx9.trans k10.kx
                have o10 := (k10.keep n4 (by omega)).trans o9
                have hL10 := hL9.keep (H' := H10) fun z _ h => k10.keep z (live_lt hw9 h)
                have hr7 : rcell (mapR (uB us) (stB g us ws) r, yx) = [.int .i64 (rk (uB us) l : Nat), sl yx (r.right.map (mapS (uB us) (stB g us ws))).length, .float .f64 r.weight] := by unfold rcell mapR; rw [hl, Int.toNat_natCast]
                rw [sl_eq] at hr7
                have hXL : OL H10 n6 3 (.int .i64) yx (mapR (uB us) (stB g us ws) r).right := hX.weak (by omega)
                have hLl : L.length ≤ i := by
                  have e := congrArg List.length hLr
                  rw [List.length_map, List.length_map] at e
                  rw [e]
                  exact Nat.le_trans (List.length_filter_le _ _) (by rw [List.length_take]; omega)
                have ho9 := live_lt hw10 (live_of o10)
                have hLn : (L ++ [(mapR (uB us) (stB g us ws) r, yx)]).map (·.1) = ((g.rules.take (i + 1)).filter (kpB us ws)).map (mapR (uB us) (stB g us ws)) := by rw [hfl, hkt, List.map_append, hLr]; rfl
                by_cases hc : L = []
                · subst hc
                  have o10' : H10 n4 = .cells [sl yt (pk (stB g us ws) 0 g.terms).length, sl yv (pk (uB us) 0 g.vars).length, .slice none 0 0] 25 true := o10
                  repeat (first | refine qqm rfl ?_ | ((first | refine qqr ?_ | refine qqt ?_); simp only [SS, qx6, vun, simprocAttr, r0.f7, f17, f95, f120, f121, f122, Nat.lt_irrefl, Int.lt_irrefl, x10, o10', hiw, rc_take, rc_splice, q (show n4 ≠ n10 by omega), q (show n4 ≠ n10 + 1 by omega), q (show n9 ≠ n10 by omega), q (show n9 ≠ n10 + 1 by omega), ff_25]))
                  refine ih (g.rules.length - (i + 1)) (by omega) _ ⟨i + 1, [(mapR (uB us) (stB g us ws) r, yx)], n10 + 1, ((kx10.trans (Kp.new n10 _ _).kx).trans (Kp.new (n10 + 1) _ _).kx).set (x := n4) _ (.inl rfl) (by omega), ⟨r0.f1, r0.f2, r0.f5, r0.f6, r0.f7, r0.f9⟩, f8, f12, by rw [hpr]; exact f93, f94, rfl, hlt, hset_at _ _ _, ?_, hLn, rfl⟩
                  refine OR.snoc (L := []) hL10 (by decide) (by omega) ?_ ?_ fun z' h1 h2 _ => ?_
                  · rw [hr7]
                    exact (hset_ne _ _ _ (by omega)).trans (hset_at _ _ _)
                  · exact hXL.keep fun h1 h2 => (hset_ne _ _ _ (by omega)).trans ((hset_ne _ _ _ (by have := live_lt hw10 h2; omega)).trans (hset_ne _ _ _ (by have := live_lt hw10 h2; omega)))
                  · have := live_lt hw10 h2
                    exact (hset_ne _ _ _ (by omega)).trans ((hset_ne _ _ _ (by omega)).trans (hset_ne _ _ _ (by omega)))
                · have hLl' : L.length ≠ 0 := fun e => hc (List.eq_nil_of_length_eq_zero e)
                  obtain ⟨hyr, cr⟩ := hL10.all hc
                  have hyr1 := live_lt hw10 (live_of cr)
                  have o10' : H10 n4 = .cells [sl yt (pk (stB g us ws) 0 g.terms).length, sl yv (pk (uB us) 0 g.vars).length, .slice (some ⟨yr, 0, none⟩) L.length L.length] 25 true := by rw [o10, sl_pos hLl']
                  have hct1 : [n10].contains yr = false := by simp; omega
                  have bL : L.length + 1 ≤ bigN := by unfold bigN; omega
                  have tL : (L.flatMap rcell).take (L.length * 3) = L.flatMap rcell := List.take_of_length_le (by rw [rcells_len]; exact Nat.le_refl _)
                  have hxr : yx ≠ yr ∨ (mapR (uB us) (stB g us ws) r).right = [] := by
                    by_cases e0 : (mapR (uB us) (stB g us ws) r).right = []
                    · exact .inr e0
                    · refine .inl fun e => ?_
                      obtain ⟨_, c1⟩ := hXL e0
                      rw [e, cr] at c1
                      exact absurd (AObj.cells.inj c1).2.1 (by decide)
                  repeat (first | refine qqm rfl ?_ | ((first | refine qqr ?_ | refine qqt ?_); simp only [SS, qx6, vun, simprocAttr, r0.f7, f17, f95, f120, f121, f122, Nat.lt_irrefl, Int.lt_irrefl, x10, o10', hiw, rc_take, rc_take', rc_splice, rcells_len, cr, hct1, bL, tL, List.drop_zero, Nat.le_refl, q (show n4 ≠ n10 by omega), q (show n4 ≠ n10 + 1 by omega), q (show n9 ≠ n10 by omega), q (show n9 ≠ n10 + 1 by omega), q (show n4 ≠ yr by omega), q (show yr ≠ n10 by omega), ff_25]))
                  refine ih (g.rules.length - (i + 1)) (by omega) _ ⟨i + 1, L ++ [(mapR (uB us) (stB g us ws) r, yx)], n10 + 1, (((kx10.trans (Kp.new n10 _ _).kx).set (x := yr) _ (.inr hyr) (by omega)).trans (Kp.new (n10 + 1) _ _).kx).set (x := n4) _ (.inl rfl) (by omega), ⟨r0.f1, r0.f2, r0.f5, r0.f6, r0.f7, r0.f9⟩, f8, f12, by rw [hpr]; exact f93, f94, rfl, hlt, by rw [← sl_snoc]; exact hset_at _ _ _, ?_, hLn, rfl⟩
                  refine OR.snoc hL10 (by decide) (by omega) ?_ ?_ fun z' h1 h2 h3 => ?_
                  · rw [hr7]
                    exact (hset_ne _ _ _ (by omega)).trans (hset_at _ _ _)
                  · intro h0
                    exact hXL.keep (fun h1 h2 => (hset_ne _ _ _ (by omega)).trans ((hset_ne _ _ _ (by have := live_lt hw10 h2; omega)).trans ((hset_ne _ _ _ (hxr.resolve_right h0)).trans (hset_ne _ _ _ (by have := live_lt hw10 h2; omega))))) h0
                  · have := live_lt hw10 h2
                    exact (hset_ne _ _ _ (by omega)).trans ((hset_ne _ _ _ (by omega)).trans ((hset_ne _ _ _ (h3 hc)).trans (hset_ne _ _ _ (by omega))))
        · obtain rfl : i = g.rules.length := by omega
          rw [List.take_of_length_le (Nat.le_refl _)] at hLr
          have hlen : L.length = (redG g (uB us) (stB g us ws) (kpB us ws)).rules.length := by
            have e := congrArg List.length hLr
            rwa [List.length_map] at e
          have hc7 := (k7.keep (n + 1) (by omega) (by omega)).trans hc6
          rw [sl_eq, sl_eq, sl_eq] at o7
          repeat (first | refine qqm rfl ?_ | ((first | refine qqr ?_ | refine qqt ?_); simp only [SS, qx6, vun, simprocAttr, r0.f2, r0.f7, f8, f93, f94, f95, Nat.lt_irrefl, Int.lt_irrefl, o7, hc7, rc_take, rc_take', rc_splice, ff_25]))
          refine WK.retNil ⟨Or.inr rfl, _, res_cell (x := n + 1) r0.f2 (hset_at _ _ _) agg_25 csz_25, ?_, ?_⟩
          · exact ((kk4.trans kp7).set (x := n + 1) _ (by omega) (by omega)).keep
          · refine ⟨us, ws, hul, hwl, hus, hws, .inr ⟨hu0, yt, yv, yw, yr, L, ?_, ?_, ?_, ?_, ?_, hLr⟩⟩
            · unfold gcells; rw [← hlen]; rfl
            · refine (hT.keep fun h1 h2 => ?_).weak (by omega)
              have := live_lt hw6 h2
              exact (hset_ne _ _ _ (by omega)).trans (k7.keep yt (by omega) (by omega))
            · refine (hV.keep fun h1 h2 => ?_).weak (by omega)
              have := live_lt hw5 h2
              exact (hset_ne _ _ _ (by omega)).trans ((k7.keep yv (by omega) (by omega)).trans (k6.keep yv (by omega) (by omega)))
            · refine (hW.keep fun h1 h2 => ?_).weak (by omega)
              have := live_lt hw5 h2
              exact (hset_ne _ _ _ (by omega)).trans ((k7.keep yw (by omega) (by omega)).trans (k6.keep yw (by omega) (by omega)))
            · exact (hL.keep fun z' h1 h2 => hset_ne _ _ _ (by omega)).weak (by omega)
end Go.Proofs.YtihjaobjhmmboaaGreatDoor
