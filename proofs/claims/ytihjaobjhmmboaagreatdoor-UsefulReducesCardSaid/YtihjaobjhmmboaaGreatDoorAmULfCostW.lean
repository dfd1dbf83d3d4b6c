/- A part of a proof. Its conditions: none. -/
import Derived.Test.YtihjaobjhmmboaaGreatDoorAmUUseRules
import Derived.Test.YtihjaobjhmmboaaGreatDoorAmC
import Derived.Test.YtihjaobjhmmboaaGreatDoorAmULfNullable
import Derived.Test.YtihjaobjhmmboaaGreatDoorAmD
set_option linter.all false
namespace Go.Proofs.YtihjaobjhmmboaaGreatDoor
open Go.AM
set_option maxRecDepth 100000
theorem usd_start {g : Gram} {v : Int} (h : Usd g v) : Prd g 0 := by
 induction h with
 | base h => exact h
 | step _ _ _ _ _ _ ih => exact ih
theorem nil_or_last {α : Type} (l : List α) : l = [] ∨ ∃ t u, l = t ++ [u] := by
 rcases List.eq_nil_or_concat l with h | ⟨t, u, h⟩
 ·exact .inl h
 ·exact .inr ⟨t, u, by rw [h, List.concat_eq_append]⟩
theorem wholeU_gives {l : Int} {right : List Int} {wt : Nat} {p : Option Addr} {x n : Nat} {H : Heap} {hs : List Bool} (hw : WF n H) (hp : RA (Value.int .i64) H p right)
  (hx : H x = .cells (hs.map .bool) 4 true) (hl : right.length ≤ maxL) (hr : ∀ s ∈ right, s < hs.length) :
  Gives Tryz.prog 45 [.agg #[.int .i64 l, .slice p right.length right.length, .float .f64 wt], .slice (some ⟨x, 0, none⟩) hs.length hs.length] n H fun v _ _ => v = .bool (prdB right hs) := by
 refine Gives.of orders ok45 (Nat.le_of_ble_eq_true rfl) ?_
 have hk := Kp.new n H (.cells [.int .i64 l, .slice p right.length right.length, .float .f64 wt] 44 true)
 have hb := hset_at H n (.cells [.int .i64 l, .slice p right.length right.length, .float .f64 wt] 44 true)
 replace hp := hp.mono hw hk
 replace hx := (hk.keep x (live_lt hw (live_of hx))).trans hx
 repeat refine qqn rfl ?_
 (refine qqr ?_; simp only [SS, qx0, vun, simprocAttr, ff_45])
 repeat refine qqn rfl ?_
 generalize hset H n (.cells [.int .i64 l, .slice p right.length right.length, .float .f64 wt] 44 true) = H1 at *
 repeat (first | refine qqm rfl ?_ | ((first | refine qqr ?_ | refine qqt ?_); simp only [SS, qx0, vun, simprocAttr, hb, ff_45]))
 unfold maxL at hl
 refine WK.loop (fun k s => ∃ j, s.n = n + 1 ∧ s.H = H1 ∧ s.f 1 = .slice (some ⟨x, 0, none⟩) hs.length hs.length ∧ s.f 8 = .slice p right.length right.length ∧ s.f 9 = .int .i64 (right.length : Nat) ∧ s.f 10 = .int .i64 (j : Nat) ∧ j ≤ right.length ∧ k = right.length - j ∧ prdB (right.take j) hs = true) right.length ?_ ?_
 ·exact ⟨0, rfl, rfl, rfl, rfl, rfl, rfl, Nat.zero_le _, rfl, rfl⟩
 rintro kk ⟨f, n', H'⟩ ⟨j, rfl, rfl, f1, f7, f8, f9, hj, rfl, hn⟩ ih
 simp only at f1 f7 f8 f9 ih hb hp hx hk
 by_cases hjr : j < right.length
 ·obtain ⟨z, kz, ds, tz, oz, rfl, hz, e⟩ := hp.at hjr
  have htj : right.take (j + 1) = right.take j ++ [right[j]] := List.take_succ_eq_append_getElem hjr
  have hlt := hr _ (List.getElem_mem hjr)
  repeat (first | refine qqm rfl ?_ | ((first | refine qqr ?_ | refine qqt ?_); simp only [SS, qx0, vun, simprocAttr, f1, f7, f8, f9, hjr, hz, e, ff_45]))
  refine AtCall.by (isVar_gives _ _ _) ?_
  rintro v n2 H2 hk2 ⟨rfl, rfl, rfl⟩
  by_cases h0 : 0 ≤ right[j]
  ·obtain ⟨s, hs'⟩ : ∃ s : Nat, right[j] = s := ⟨right[j].toNat, by omega⟩
   have hsl : s < hs.length := by omega
   have hg : (hs.map Value.bool)[s]? = some (.bool hs[s]) := by rw [List.getElem?_map, List.getElem?_eq_getElem hsl]; rfl
   cases hb2 : hs[s]
   ·rw [hb2] at hg
    simp only [SS, qx0, vun, simprocAttr, f1, f7, f8, f9, hjr, hs', h0, hx, hsl, hg, ff_45]
    repeat (first | refine qqm rfl ?_ | ((first | refine qqr ?_ | refine qqt ?_); simp only [SS, qx0, vun, simprocAttr, f1, f7, f8, f9, ff_45]))
    first | refine qqf ?_ ?_ | refine qqg ?_ ?_
    ·exact hk.keep
    ·simp only [packed, qv, Nat.reduceEqDiff, ↓reduceIte, ff_45]
     have : prdB right hs = false := by
      unfold prdB
      rw [List.all_eq_false]
      exact ⟨right[j], List.getElem_mem hjr, by rw [hs']; simp [hsl, hb2]⟩
     rw [this]
   ·rw [hb2] at hg
    simp only [SS, qx0, vun, simprocAttr, f1, f7, f8, f9, hjr, hs', h0, hx, hsl, hg, ff_45]
    repeat (first | refine qqm rfl ?_ | ((first | refine qqr ?_ | refine qqt ?_); simp only [SS, qx0, vun, simprocAttr, f1, f7, f8, f9, ff_45]))
    refine ih (right.length - (j + 1)) (by omega) _ ⟨j + 1, rfl, rfl, f1, f7, f8, ?_, hjr, rfl, ?_⟩
    ·simp only [packed, qv, Nat.reduceEqDiff, ↓reduceIte, f9, ff_45]
     rw [wrap_in (by omega) (by omega)]; rfl
    ·rw [htj]
     unfold prdB at hn ⊢
     rw [List.all_append, hn, hs']
     simp [hsl, hb2]
  ·simp only [SS, qx0, vun, simprocAttr, f1, f7, f8, f9, hjr, h0, ff_45]
   repeat (first | refine qqm rfl ?_ | ((first | refine qqr ?_ | refine qqt ?_); simp only [SS, qx0, vun, simprocAttr, f1, f7, f8, f9, ff_45]))
   refine ih (right.length - (j + 1)) (by omega) _ ⟨j + 1, rfl, rfl, f1, f7, f8, ?_, hjr, rfl, ?_⟩
   ·simp only [packed, qv, Nat.reduceEqDiff, ↓reduceIte, f9, ff_45]
    rw [wrap_in (by omega) (by omega)]; rfl
   ·rw [htj]
    unfold prdB at hn ⊢
    rw [List.all_append, hn]
    simp [show right[j] < 0 by omega]
 ·repeat (first | refine qqm rfl ?_ | ((first | refine qqr ?_ | refine qqt ?_); simp only [SS, qx0, vun, simprocAttr, f1, f7, f8, f9, hjr, ff_45]))
  first | refine qqf ?_ ?_ | refine qqg ?_ ?_
  ·exact hk.keep
  ·simp only [packed, qv, Nat.reduceEqDiff, ↓reduceIte, ff_45]
   rw [List.take_of_length_le (by omega)] at hn
   rw [hn]
set_option maxHeartbeats 16000000 in
theorem useful_gives {v : Value} {g : Gram} {n : Nat} {H : Heap} (hw : WF n H) (hg : RG H v g) (wg : WG g) (ok : RightOK g) (ho : RO Tryz.prog H v) :
    Gives Tryz.prog 19 [v] n H fun v n' H' => ∃ (hs : List Bool) (x : Nat), n ≤ x ∧ x < n' ∧ v = .slice (some ⟨x, 0, none⟩) g.vars.length g.vars.length ∧ hs.length = g.vars.length ∧ H' x = .cells (hs.map .bool) 4 true ∧ ∀ v, hold hs v ↔ Usd g v := by
  have hg0 := hg
  obtain ⟨pt, pv, pr, rfl, ht, hv, hr⟩ := hg
  refine Gives.of orders ok19 (Nat.le_of_ble_eq_true rfl) ?_
  have hk := Kp.new n H (.cells (gcells pt pv pr g) 25 true)
  have hb := hset_at H n (.cells (gcells pt pv pr g) 25 true)
  have hi := ok.inG
  have hv64 := ok.vars
  have hv1 := ok.vars1
  have hrl := ok.rules
  have hvl : (g.vars.length : Int) ≤ bigN := by unfold bigN; omega
  repeat refine qqn rfl ?_
  (refine qqr ?_; simp only [SS, qx15, vun, simprocAttr, box_cells, box_one, ff_19])
  generalize hset H n (.cells (gcells pt pv pr g) 25 true) = H1 at *
  repeat refine qqn rfl ?_
  (refine qqr ?_; simp only [SS, qx15, vun, simprocAttr, hb, gc_len, gc_all, ff_19])
  refine AtCall.by (productive_gives (hk.wf hw) (hg0.mono hw hk) wg ok) ?_
  rintro v nb Hb kb ⟨ws, xw, hxw0, hxw1, rfl, hwl, hxw, hws⟩
  simp only [SS, qx15, vun, simprocAttr, ff_19]
  have kk := hk.trans kb
  have wb := kk.wf hw
  have hnb := kk.le
  have hbb := (kb.keep n (by omega)).trans hb
  repeat refine qqn rfl ?_
  (refine qqr ?_; simp only [SS, qx15, vun, simprocAttr, hbb, gc_1, hvl, ff_19])
  rw [rep_map]
  have k3 := kk.trans (Kp.new nb Hb (.cells ((List.replicate g.vars.length false).map .bool) 4 true))
  have b3 := hset_at Hb nb (.cells ((List.replicate g.vars.length false).map .bool) 4 true)
  have bb3 := (hset_ne Hb nb (.cells ((List.replicate g.vars.length false).map .bool) 4 true) (x := n) (by omega)).trans hbb
  have bw3 := (hset_ne Hb nb (.cells ((List.replicate g.vars.length false).map .bool) 4 true) (x := xw) (by omega)).trans hxw
  generalize hset Hb nb (.cells ((List.replicate g.vars.length false).map .bool) 4 true) = H3 at *
  have hw0l : 0 < ws.length := by omega
  have hget0 : (ws.map Value.bool)[0]? = some (.bool ws[0]) := by rw [List.getElem?_map, List.getElem?_eq_getElem hw0l]; rfl
  have hlt0 : 0 < g.vars.length := by omega
  have hlt0' : (0 : Int) < (g.vars.length : Int) := by omega
  have hp0 : hold ws 0 ↔ ws[0] = true := by
    have := hold_nat (l := ws) (u := 0)
    rw [List.getElem?_eq_getElem hw0l] at this
    simpa using this
  cases hwv : ws[0]
  · rw [hwv] at hget0
    repeat (first | refine qqm rfl ?_ | ((first | refine qqr ?_ | refine qqt ?_); simp only [SS, qx15, vun, simprocAttr, bw3, hget0, hlt0', ff_19]))
    first | refine qqf ?_ ?_ | refine qqg ?_ ?_
    · exact k3.keep
    · simp only [packed, qv, Nat.reduceEqDiff, ↓reduceIte, ff_19]
      refine ⟨_, nb, by omega, by show nb < nb + 1; omega, rfl, by simp, b3, fun v => ⟨fun h => ?_, fun h => ?_⟩⟩
      · exfalso
        have := h.2
        rw [List.getD_eq_getElem?_getD, List.getElem?_replicate] at this
        split at this <;> simp at this
      · have := hp0.1 ((hws 0).2 (usd_start h))
        rw [hwv] at this; cases this
  rw [hwv] at hget0
  have hprd0 : Prd g 0 := (hws 0).1 (hp0.2 hwv)
  have hset0 : (((List.replicate g.vars.length false).map Value.bool).set 0 (.bool true)) = ((List.replicate g.vars.length false).set 0 true).map .bool := by rw [List.map_set]
  have hlr : 0 + 1 ≤ (List.replicate g.vars.length false).length := by simp; omega
  have hrne : 0 < g.rules.length := by
    apply Classical.byContradiction
    intro hc
    have h0 : g.rules = [] := List.eq_nil_of_length_eq_zero (by omega)
    have := ok.count 0 hlt0
    rw [h0] at this
    exact this rfl
  obtain ⟨z, kz, cz, tz, oz, _, rfl, hz, _⟩ := hr.at hrne
  have hoz := ho _ _ _ g rfl z kz none rfl cz tz oz hz
  have hoz' : (oz = true → isz Tryz.prog tz = some 3) = True := eq_true hoz
  repeat (first | refine qqm rfl ?_ | ((first | refine qqr ?_ | refine qqt ?_); simp only [SS, qx15, vun, simprocAttr, bw3, b3, hget0, hlt0', hset0, hlr, List.length_map, ff_19]))
  have k4 := (k3.set (x := nb) (.cells (((List.replicate g.vars.length false).set 0 true).map .bool) 4 true) (by omega) (by omega)).trans (Kp.new (nb + 1) _ (.cells [.int .i64 ((0 : Nat) : Int)] 3 true))
  have e0 : hset (hset H3 nb (.cells (((List.replicate g.vars.length false).set 0 true).map .bool) 4 true)) (nb + 1) (.cells [.int .i64 ((0 : Nat) : Int)] 3 true) n = _ := (hset_ne _ _ _ (by omega)).trans ((hset_ne _ _ _ (by omega)).trans bb3)
  have e1 : hset (hset H3 nb (.cells (((List.replicate g.vars.length false).set 0 true).map .bool) 4 true)) (nb + 1) (.cells [.int .i64 ((0 : Nat) : Int)] 3 true) xw = _ := (hset_ne _ _ _ (by omega)).trans ((hset_ne _ _ _ (by omega)).trans bw3)
  have e2 : hset (hset H3 nb (.cells (((List.replicate g.vars.length false).set 0 true).map .bool) 4 true)) (nb + 1) (.cells [.int .i64 ((0 : Nat) : Int)] 3 true) nb = _ := (hset_ne _ _ _ (by omega)).trans (hset_at _ _ _)
  have e3 : hset (hset H3 nb (.cells (((List.replicate g.vars.length false).set 0 true).map .bool) 4 true)) (nb + 1) (.cells [.int .i64 ((0 : Nat) : Int)] 3 true) (nb + 1) = _ := hset_at _ _ _
  refine WK.loop (fun k s => ∃ (r : List Bool) (todo : List Nat) (y : Nat) (cs : List Value), Kp n H s.n s.H ∧ s.f 1 = .pointer (some ⟨n, 0, none⟩) ∧ s.f 3 = .slice (some ⟨xw, 0, none⟩) g.vars.length g.vars.length ∧ s.f 4 = .slice (some ⟨nb, 0, none⟩) g.vars.length g.vars.length ∧
      s.f 5 = .slice (some ⟨y, 0, none⟩) todo.length todo.length ∧ s.H n = .cells (gcells pt pv (some ⟨z, kz, none⟩) g) 25 true ∧ s.H xw = .cells (ws.map .bool) 4 true ∧ s.H nb = .cells (r.map .bool) 4 true ∧ s.H y = .cells cs 3 true ∧ cs.take todo.length = todo.map (fun u => .int .i64 (u : Nat)) ∧
      nb < y ∧ r.length = g.vars.length ∧ UWork g ws r todo (fun _ => False) ∧ todo.length + r.count false ≤ g.vars.length ∧ (∀ u ∈ todo, u < g.vars.length) ∧ k = todo.length + r.count false) g.vars.length ?_ ?_
  · have hcnt : ((List.replicate g.vars.length false).set 0 true).count false + 1 = g.vars.length := by
      rw [List.count_set (by simp; omega)]
      simp [List.count_replicate]
      omega
    refine ⟨_, [0], nb + 1, [.int .i64 ((0 : Nat) : Int)], k4, rfl, rfl, rfl, rfl, e0, e1, e2, e3, rfl, by omega, by simp, UWork.start ws hlt0 hprd0, by simp; omega, by simp; omega, by simp; omega⟩
  clear e0 e1 e2 e3 k4 hset0 hlr
  rintro kk' ⟨f, n5, H5⟩ ⟨r, todo, y, cs, kp, f1, f3, f4, f5, b0, bw, bo, hy, htake, hyb, hrl5, W, hsz, htv, rfl⟩ ih
  simp only at f1 f3 f4 f5 ih kp b0 bw bo hy
  have hw5 := kp.wf hw
  rcases nil_or_last todo with rfl | ⟨t0, u, rfl⟩
  · have h00 : ((0 : Int) < ((0 : Nat) : Int)) = False := by simp
    repeat (first | refine qqm rfl ?_ | ((first | refine qqr ?_ | refine qqt ?_); simp only [SS, qx15, vun, simprocAttr, f4, f5, h00, ff_19]))
    first | refine qqf ?_ ?_ | refine qqg ?_ ?_
    · exact kp.keep
    · simp only [packed, qv, Nat.reduceEqDiff, ↓reduceIte, f4, ff_19]
      have := live_lt hw5 (live_of bo)
      exact ⟨r, nb, by omega, this, rfl, hrl5, bo, usd_of hws W.sound (fun _ => W.base) (W.over hi)⟩
  · have hlen : (t0 ++ [u]).length = t0.length + 1 := by simp
    rw [hlen] at f5 htake hsz ih
    have h0 : (0 : Int) < ((t0.length + 1 : Nat) : Int) := by omega
    have hu := htv u (by simp)
    have hwr : IntKind.i64.wrap (((t0.length + 1 : Nat) : Int) - 1) = ((t0.length : Nat) : Int) := by rw [wrap_in (by omega) (by omega)]; omega
    have hcs : cs[t0.length]? = some (.int .i64 (u : Nat)) := by
      have h1 : (cs.take (t0.length + 1))[t0.length]? = some (.int .i64 (u : Nat)) := by rw [htake]; simp
      rw [List.getElem?_take] at h1
      simpa using h1
    have husd : Usd g u := W.sound _ (W.known u (by simp))
    have W1 := W.pop
    repeat (first | refine qqm rfl ?_ | ((first | refine qqr ?_ | refine qqt ?_); simp only [SS, qx15, vun, simprocAttr, f1, f5, h0, hwr, hy, hcs, b0, gc_len, gc_all, isz_3, Nat.lt_succ_self, Nat.le_succ, Nat.sub_zero, ff_19]))
    refine AtCall.by (rules_gives (v := (u : Int)) hw5 (hg0.mono hw kp) ok) ?_
    rintro v n6 H6 k6 ⟨a, b, rfl, hab, hbl, hrules⟩
    have kp6 := kp.trans k6
    have hw6 := kp6.wf hw
    have b06 := (k6.keep n (live_lt hw5 (live_of b0))).trans b0
    have bw6 := (k6.keep xw (live_lt hw5 (live_of bw))).trans bw
    have bo6 := (k6.keep nb (live_lt hw5 (live_of bo))).trans bo
    have hy6 := (k6.keep y (live_lt hw5 (live_of hy))).trans hy
    have hz6 := (kp6.keep z (live_lt hw (live_of hz))).trans hz
    have hba : ((b - a : Nat) : Int) = (b : Int) - a := by omega
    simp only [SS, qx15, vun, simprocAttr, ff_19]
    repeat (first | refine qqm rfl ?_ | ((first | refine qqr ?_ | refine qqt ?_); simp only [SS, qx15, vun, simprocAttr, f1, f3, f4, b06, gc_2, hz6, hab, hbl, hoz', true_and, and_true, ff_19]))
    refine WK.loop (fun k s => ∃ (j : Nat) (r1 : List Bool) (todo : List Nat) (y : Nat) (cs : List Value), Kp n H s.n s.H ∧ s.f 1 = .pointer (some ⟨n, 0, none⟩) ∧ s.f 3 = .slice (some ⟨xw, 0, none⟩) g.vars.length g.vars.length ∧ s.f 4 = .slice (some ⟨nb, 0, none⟩) g.vars.length g.vars.length ∧
        s.f 5 = .slice (some ⟨y, 0, none⟩) todo.length todo.length ∧ s.H n = .cells (gcells pt pv (some ⟨z, kz, none⟩) g) 25 true ∧ s.H xw = .cells (ws.map .bool) 4 true ∧ s.H nb = .cells (r1.map .bool) 4 true ∧ s.H y = .cells cs 3 true ∧ cs.take todo.length = todo.map (fun u => .int .i64 (u : Nat)) ∧
        nb < y ∧ r1.length = g.vars.length ∧ UWork g ws r1 todo (fun w => w = u) ∧ todo.length + r1.count false = t0.length + r.count false ∧ (∀ u ∈ todo, u < g.vars.length) ∧ s.f 51 = .slice (some ⟨z, kz + a * 3, none⟩) (b - a) (b - a) ∧ s.f 52 = .int .i64 ((b - a : Nat) : Int) ∧ s.f 53 = .int .i64 (j : Nat) ∧ j ≤ b - a ∧
        (∀ (i : Nat) (h : i < g.rules.length), a ≤ i → i < a + j → prdB g.rules[i].right ws = true → ∀ s ∈ g.rules[i].right, 0 ≤ s → hold r1 s) ∧ k = (b - a) - j) (b - a) ?_ ?_
    · refine ⟨0, r, t0, y, cs, kp6, f1, f3, f4, rfl, b06, bw6, bo6, hy6, ?_, hyb, hrl5, W1, rfl, fun w hw => htv w (by simp [hw]), rfl, rfl, rfl, Nat.zero_le _, (fun i h h1 h2 => by omega), rfl⟩
      have h1 : (cs.take (t0.length + 1)).take t0.length = t0.map (fun u => Value.int .i64 (u : Nat)) := by rw [htake]; simp
      rw [List.take_take] at h1
      rwa [Nat.min_eq_left (Nat.le_succ _)] at h1
    clear W1 W hcs hwr htake hrl5 f1 f3 f4 f5 hw5 hw6 kp kp6 k6 b0 bw bo hy b06 bw6 bo6 hy6 hz6 hyb
    rintro kk' ⟨f, n7, H7⟩ ⟨j, r1, todo, y, cs, kp, f1, f3, f4, f5, b0, bw, bo, hy, htake, hyb, hrl7, W, hsz1, htv1, f51, f52, f53, hj, hdone, rfl⟩ ih2
    simp only at f1 f3 f4 f5 f51 f52 f53 ih2 kp b0 bw bo hy
    have hw7 := kp.wf hw
    by_cases hjl : j < b - a
    · have hjr : a + j < g.rules.length := by omega
      have hjw : IntKind.i64.wrap ((j : Int) + 1) = ((j + 1 : Nat) : Int) := by rw [wrap_in (by omega) (by omega)]; rfl
      obtain ⟨z', k', cs', ty', own', p, e0, hzH, d0, d1, d2, hpH⟩ := hr.at hjr
      cases e0
      have hz' := (kp.keep z (live_lt hw (live_of hzH))).trans hzH
      have hp := hpH.mono hw kp
      have ek : kz + (a + j) * 3 = kz + a * 3 + j * 3 := by omega
      rw [ek] at d0 d1 d2
      have d3 := take3 d0 d1 d2
      have d4 := len3 d2
      have hm := List.getElem_mem hjr
      have hleft : g.rules[a + j].left = (u : Int) := (hrules _ hjr).2 ⟨by omega, by omega⟩
      generalize hrule : g.rules[a + j] = ru at *
      have kn := Kp.new n7 H7 (.cells [.int .i64 ru.left, .slice p ru.right.length ru.right.length, .float .f64 ru.weight] 44 true)
      have c0 := (hset_ne H7 n7 (.cells [.int .i64 ru.left, .slice p ru.right.length ru.right.length, .float .f64 ru.weight] 44 true) (x := n) (Nat.ne_of_lt (live_lt hw7 (live_of b0)))).trans b0
      have cw := (hset_ne H7 n7 (.cells [.int .i64 ru.left, .slice p ru.right.length ru.right.length, .float .f64 ru.weight] 44 true) (x := xw) (Nat.ne_of_lt (live_lt hw7 (live_of bw)))).trans bw
      have co := (hset_ne H7 n7 (.cells [.int .i64 ru.left, .slice p ru.right.length ru.right.length, .float .f64 ru.weight] 44 true) (x := nb) (Nat.ne_of_lt (live_lt hw7 (live_of bo)))).trans bo
      have cy := (hset_ne H7 n7 (.cells [.int .i64 ru.left, .slice p ru.right.length ru.right.length, .float .f64 ru.weight] 44 true) (x := y) (Nat.ne_of_lt (live_lt hw7 (live_of hy)))).trans hy
      have cr := hset_at H7 n7 (.cells [.int .i64 ru.left, .slice p ru.right.length ru.right.length, .float .f64 ru.weight] 44 true)
      have kp8 := kp.trans kn
      have hp8 := hp.mono hw7 kn
      repeat (first | refine qqm rfl ?_ | ((first | refine qqr ?_ | refine qqt ?_); simp only [SS, qx15, vun, simprocAttr, f3, f51, f52, f53, hjl, hz', d3, d4, hset_hset, List.nil_append, List.cons_append, ff_19]))
      generalize hset H7 n7 (.cells [.int .i64 ru.left, .slice p ru.right.length ru.right.length, .float .f64 ru.weight] 44 true) = H8 at *
      have hw8 := kp8.wf hw
      have hall := wholeU_gives (l := ru.left) (wt := ru.weight) hw8 hp8 cw (wg.right _ hm).1 (fun s hs => by rw [hwl]; exact hi.right _ hm s hs)
      rw [hwl] at hall
      refine AtCall.by hall ?_
      rintro v n9 H9 k9 rfl
      have kp9 := kp8.trans k9
      have g0 := (k9.keep n (live_lt hw8 (live_of c0))).trans c0
      have gw := (k9.keep xw (live_lt hw8 (live_of cw))).trans cw
      have go := (k9.keep nb (live_lt hw8 (live_of co))).trans co
      have gy := (k9.keep y (live_lt hw8 (live_of cy))).trans cy
      have gr := (k9.keep n7 (Nat.lt_succ_self _)).trans cr
      cases hb9 : prdB ru.right ws
      · simp only [SS, qx15, vun, simprocAttr, ff_19]
        repeat (first | refine qqm rfl ?_ | ((first | refine qqr ?_ | refine qqt ?_); simp only [SS, qx15, vun, simprocAttr, f53, hjw, ff_19]))
        refine ih2 ((b - a) - (j + 1)) (by omega) _ ⟨j + 1, r1, todo, y, cs, kp9, f1, f3, f4, f5, g0, gw, go, gy, htake, hyb, hrl7, W, hsz1, htv1, f51, f52, ?_, hjl, (fun i h h1 h2 hpi => ?_), rfl⟩
        · simp only [packed, qv, Nat.reduceEqDiff, ↓reduceIte, f53, hjw, ff_19]
        · by_cases e : i = a + j
          · subst e
            rw [hrule, hb9] at hpi; cases hpi
          · exact hdone i h h1 (by omega) hpi
      · simp only [SS, qx15, vun, simprocAttr, ff_19]
        repeat (first | refine qqm rfl ?_ | ((first | refine qqr ?_ | refine qqt ?_); simp only [SS, qx15, vun, simprocAttr, f53, gr, ff_19]))
        refine WK.loop (fun k s => ∃ (q : Nat) (r2 : List Bool) (todo : List Nat) (y : Nat) (cs : List Value), Kp n H s.n s.H ∧ s.f 1 = .pointer (some ⟨n, 0, none⟩) ∧ s.f 3 = .slice (some ⟨xw, 0, none⟩) g.vars.length g.vars.length ∧ s.f 4 = .slice (some ⟨nb, 0, none⟩) g.vars.length g.vars.length ∧
            s.f 5 = .slice (some ⟨y, 0, none⟩) todo.length todo.length ∧ s.H n = .cells (gcells pt pv (some ⟨z, kz, none⟩) g) 25 true ∧ s.H xw = .cells (ws.map .bool) 4 true ∧ s.H nb = .cells (r2.map .bool) 4 true ∧ s.H y = .cells cs 3 true ∧ cs.take todo.length = todo.map (fun u => .int .i64 (u : Nat)) ∧
            nb < y ∧ r2.length = g.vars.length ∧ UWork g ws r2 todo (fun w => w = u) ∧ todo.length + r2.count false = t0.length + r.count false ∧ (∀ u ∈ todo, u < g.vars.length) ∧ s.f 51 = .slice (some ⟨z, kz + a * 3, none⟩) (b - a) (b - a) ∧ s.f 52 = .int .i64 ((b - a : Nat) : Int) ∧ s.f 53 = .int .i64 (j : Nat) ∧
            s.f 62 = .slice p ru.right.length ru.right.length ∧ s.f 63 = .int .i64 (ru.right.length : Nat) ∧ s.f 64 = .int .i64 (q : Nat) ∧ q ≤ ru.right.length ∧
            (∀ (i : Nat) (h : i < g.rules.length), a ≤ i → i < a + j → prdB g.rules[i].right ws = true → ∀ s ∈ g.rules[i].right, 0 ≤ s → hold r2 s) ∧ (∀ (w : Nat) (s : Int), w < q → ru.right[w]? = some s → 0 ≤ s → hold r2 s) ∧ k = ru.right.length - q) ru.right.length ?_ ?_
        · exact ⟨0, r1, todo, y, cs, kp9, f1, f3, f4, f5, g0, gw, go, gy, htake, hyb, hrl7, W, hsz1, htv1, f51, f52, f53, rfl, rfl, rfl, Nat.zero_le _, hdone, (fun w s h => absurd h (Nat.not_lt_zero _)), rfl⟩
        clear W htake hrl7 f1 f3 f4 f5 f51 f52 f53 kn c0 cw co cy cr hw7 hw8 b0 bw bo hy gr g0 gw go gy hdone hsz1 htv1 hyb hall
        rintro kk' ⟨f, m, H10⟩ ⟨q, r2, todo, y, cs, kq, f1, f3, f4, f5, b0, bw, bo, hy, htake, hyb, hrl7, W, hsz1, htv1, f51, f52, f53, f62, f63, f64, hq, hdone, hpos, rfl⟩ ih3
        simp only at f1 f3 f4 f5 f51 f52 f53 f62 f63 f64 ih3 kq b0 bw bo hy
        have hwq := kq.wf hw
        by_cases hql : q < ru.right.length
        · have hqw : IntKind.i64.wrap ((q : Int) + 1) = ((q + 1 : Nat) : Int) := by have := (ok.rule _ hjr).len; rw [hrule] at this; rw [wrap_in (by omega) (by omega)]; rfl
          have hrA := hpH.mono hw kq
          obtain ⟨x3, k3', ds, tz3, oz3, rfl, hx3, e⟩ := hrA.at hql
          have hlt := hi.right _ hm _ (List.getElem_mem hql)
          repeat (first | refine qqm rfl ?_ | ((first | refine qqr ?_ | refine qqt ?_); simp only [SS, qx15, vun, simprocAttr, f62, f63, f64, hql, hx3, e, ff_19]))
          refine AtCall.by (isVar_gives _ _ _) ?_
          rintro v n2 H2 hk2 ⟨rfl, rfl, rfl⟩
          by_cases h0 : 0 ≤ ru.right[q]
          · obtain ⟨s, hs'⟩ : ∃ s : Nat, ru.right[q] = s := ⟨ru.right[q].toNat, by omega⟩
            have hsl : s < r2.length := by omega
            have hsv : s < g.vars.length := by omega
            have hgs : (r2.map Value.bool)[s]? = some (.bool r2[s]) := by rw [List.getElem?_map, List.getElem?_eq_getElem hsl]; rfl
            have hqs : ru.right[q]? = some (s : Int) := by rw [List.getElem?_eq_getElem hql, hs']
            cases hb2 : r2[s]
            · rw [hb2] at hgs
              simp only [SS, qx15, vun, simprocAttr, f4, hs', h0, bo, hsv, hgs, ff_19]
              have hyn2 : y < n2 := live_lt hwq (live_of hy)
              have hnn2 : n < n2 := live_lt hwq (live_of b0)
              have hxn2 : xw < n2 := live_lt hwq (live_of bw)
              have hon2 : nb < n2 := live_lt hwq (live_of bo)
              have hset' : (r2.map Value.bool).set s (.bool true) = (r2.set s true).map .bool := by rw [List.map_set]
              have hcnt := count_set_lt hsl hb2
              have v1 : todo.length ≤ cs.length := by
                have := congrArg List.length htake
                rw [List.length_take, List.length_map] at this; omega
              have v2 : [n2].contains y = false := by simp; omega
              have v3 : todo.length + 1 ≤ bigN := by unfold bigN; omega
              have v4 : s + 1 ≤ r2.length := hsl
              have v5 : ∀ o o2, hset (hset H2 nb o) n2 o2 y = _ := fun o o2 => (hset_ne _ _ _ (by omega)).trans ((hset_ne _ _ _ (by omega)).trans hy)
              have hlu : g.rules[a + j].left = (u : Int) := by rw [hrule]; exact hleft
              have hus : Usd g (s : Int) := .step (a + j) hjr (by rw [hlu]; exact husd) (fun t ht ht0 => (hws t).1 (prdB_hold.1 (by rw [hrule] at ht ⊢; exact hb9) t ht ht0)) (by rw [hrule]; exact List.mem_of_getElem? hqs) (by omega)
              repeat (first | refine qqm rfl ?_ | ((first | refine qqr ?_ | refine qqt ?_); simp only [SS, qx15, vun, simprocAttr, f4, f5, bo, f64, hqw, hsv, hset', v1, v2, v3, v4, v5, htake, List.length_map, List.drop_zero, ff_19]))
              have kq1 := (((kq.set (x := nb) (.cells ((r2.set s true).map .bool) 4 true) (by omega) hon2).trans (Kp.new n2 _ (.cells [.int .i64 (s : Nat)] 3 true))).set (x := y) .dead (by omega) (by omega)).trans (Kp.new (n2 + 1) _ (.cells (todo.map (fun u => .int .i64 (u : Nat)) ++ [.int .i64 (s : Nat)]) 3 true))
              refine ih3 (ru.right.length - (q + 1)) (by omega) _ ⟨q + 1, r2.set s true, todo ++ [s], n2 + 1, todo.map (fun u => .int .i64 (u : Nat)) ++ [.int .i64 (s : Nat)], kq1, f1, f3, f4, ?_, ?_, ?_, ?_, hset_at _ _ _, ?_, by omega, by rw [List.length_set]; exact hrl7, W.push hsl hus, ?_, ?_, f51, f52, f53, f62, f63, ?_, hql, (fun i h h1 h2 hpi t ht ht0 => (hold_setI hsl).2 (.inr (hdone i h h1 h2 hpi t ht ht0))), (fun w t hw ht ht0 => ?_), rfl⟩
              · simp only [packed, qv, Nat.reduceEqDiff, ↓reduceIte, ff_19]
                simp
              · exact (hset_ne _ _ _ (by omega)).trans ((hset_ne _ _ _ (by omega)).trans ((hset_ne _ _ _ (by omega)).trans ((hset_ne _ _ _ (by omega)).trans b0)))
              · exact (hset_ne _ _ _ (by omega)).trans ((hset_ne _ _ _ (by omega)).trans ((hset_ne _ _ _ (by omega)).trans ((hset_ne _ _ _ (by omega)).trans bw)))
              · exact (hset_ne _ _ _ (by omega)).trans ((hset_ne _ _ _ (by omega)).trans ((hset_ne _ _ _ (by omega)).trans (hset_at _ _ _)))
              · rw [List.map_append]; exact List.take_of_length_le (by simp)
              · have h1 : 0 < r2.count false := List.count_pos_iff.2 (hb2 ▸ List.getElem_mem hsl)
                have h2 : (r2.set s true).count false + 1 = r2.count false := by
                  rw [List.count_set hsl, hb2]
                  simp
                  omega
                rw [List.length_append]; simp; omega
              · intro w hw
                rcases List.mem_append.1 hw with hw | hw
                · exact htv1 w hw
                · simp at hw; omega
              · simp only [packed, qv, Nat.reduceEqDiff, ↓reduceIte, f64, hqw, ff_19]
              · by_cases e : w = q
                · subst e
                  rw [hqs] at ht; cases ht
                  exact (hold_setI hsl).2 (.inl rfl)
                · exact (hold_setI hsl).2 (.inr (hpos w t (by omega) ht ht0))
            · rw [hb2] at hgs
              simp only [SS, qx15, vun, simprocAttr, f4, hs', h0, bo, hsv, hgs, ff_19]
              repeat (first | refine qqm rfl ?_ | ((first | refine qqr ?_ | refine qqt ?_); simp only [SS, qx15, vun, simprocAttr, f64, hqw, ff_19]))
              refine ih3 (ru.right.length - (q + 1)) (by omega) _ ⟨q + 1, r2, todo, y, cs, kq, f1, f3, f4, f5, b0, bw, bo, hy, htake, hyb, hrl7, W, hsz1, htv1, f51, f52, f53, f62, f63, ?_, hql, hdone, (fun w t hw ht ht0 => ?_), rfl⟩
              · simp only [packed, qv, Nat.reduceEqDiff, ↓reduceIte, f64, hqw, ff_19]
              · by_cases e : w = q
                · subst e
                  rw [hqs] at ht; cases ht
                  exact hold_nat.2 (by rw [List.getElem?_eq_getElem hsl, hb2])
                · exact hpos w t (by omega) ht ht0
          · simp only [SS, qx15, vun, simprocAttr, h0, ff_19]
            repeat (first | refine qqm rfl ?_ | ((first | refine qqr ?_ | refine qqt ?_); simp only [SS, qx15, vun, simprocAttr, f64, hqw, ff_19]))
            refine ih3 (ru.right.length - (q + 1)) (by omega) _ ⟨q + 1, r2, todo, y, cs, kq, f1, f3, f4, f5, b0, bw, bo, hy, htake, hyb, hrl7, W, hsz1, htv1, f51, f52, f53, f62, f63, ?_, hql, hdone, (fun w t hw ht ht0 => ?_), rfl⟩
            · simp only [packed, qv, Nat.reduceEqDiff, ↓reduceIte, f64, hqw, ff_19]
            · by_cases e : w = q
              · subst e
                rw [List.getElem?_eq_getElem hql] at ht; cases ht
                exact absurd ht0 h0
              · exact hpos w t (by omega) ht ht0
        · repeat (first | refine qqm rfl ?_ | ((first | refine qqr ?_ | refine qqt ?_); simp only [SS, qx15, vun, simprocAttr, f53, f63, f64, hql, hjw, ff_19]))
          refine ih2 ((b - a) - (j + 1)) (by omega) _ ⟨j + 1, r2, todo, y, cs, kq, f1, f3, f4, f5, b0, bw, bo, hy, htake, hyb, hrl7, W, hsz1, htv1, f51, f52, ?_, hjl, (fun i h h1 h2 hpi s hs h0 => ?_), rfl⟩
          · simp only [packed, qv, Nat.reduceEqDiff, ↓reduceIte, f53, hjw, ff_19]
          · by_cases e : i = a + j
            · subst e
              rw [hrule] at hs
              obtain ⟨w, hw', rfl⟩ := List.getElem_of_mem hs
              exact hpos w _ (by omega) (List.getElem?_eq_getElem hw') h0
            · exact hdone i h h1 (by omega) hpi s hs h0
    · repeat (first | refine qqm rfl ?_ | ((first | refine qqr ?_ | refine qqt ?_); simp only [SS, qx15, vun, simprocAttr, f51, f52, f53, hjl, ff_19]))
      refine ih _ ?_ _ ⟨r1, todo, y, cs, kp, f1, f3, f4, f5, b0, bw, bo, hy, htake, hyb, hrl7, W.done (fun q hq hqu hqp s hs h0 => ?_), by omega, htv1, rfl⟩
      · rw [hsz1]; omega
      · obtain ⟨i, hil, rfl⟩ := List.getElem_of_mem hq
        have := (hrules i hil).1 hqu
        exact hdone i hil this.1 (by omega) hqp s hs h0
end Go.Proofs.YtihjaobjhmmboaaGreatDoor

namespace Go.Proofs.YtihjaobjhmmboaaGreatDoor
open Go.AM
set_option maxRecDepth 100000
def kpB (us ws : List Bool) (r : GRule) : Bool := us.getD r.left.toNat false && prdB r.right ws
def standsB (us ws : List Bool) (l : List GRule) (s : Int) : Bool := l.any fun r => kpB us ws r && r.right.any fun z => decide (z = s)
theorem standsB_snoc (us ws : List Bool) (l : List GRule) (r : GRule) (s : Int) : standsB us ws (l ++ [r]) s = (standsB us ws l s || (kpB us ws r && r.right.any fun z => decide (z = s))) := by
 simp [standsB, List.any_append]
theorem standsB_pre {us ws : List Bool} {l : List GRule} {s : Int} {i : Nat} (h : standsB us ws (l.take i) s = true) : standsB us ws l s = true := by
 unfold standsB at *
 obtain ⟨r, hr, e⟩ := List.any_eq_true.1 h
 exact List.any_eq_true.2 ⟨r, List.mem_of_mem_take hr, e⟩
set_option maxHeartbeats 8000000 in
theorem stands_gives {gv : Value} {g : Gram} {s : Int} {x y n : Nat} {H : Heap} {us ws : List Bool} (hw : WF n H) (hg : RG H gv g) (wg : WG g) (ig : InG g)
  (hx : H x = .cells (us.map .bool) 4 true) (hy : H y = .cells (ws.map .bool) 4 true) (hul : us.length = g.vars.length) (hwl : ws.length = g.vars.length) :
  Gives Tryz.prog 54 [gv, .slice (some ⟨x, 0, none⟩) us.length us.length, .slice (some ⟨y, 0, none⟩) ws.length ws.length, .int .i64 s] n H fun v _ _ => v = .bool (standsB us ws g.rules s) := by
 obtain ⟨pt, pv, pr, rfl, ht, hv, hr⟩ := hg
 refine Gives.of orders ok54 (Nat.le_of_ble_eq_true rfl) ?_
 have k1 := Kp.new n H (.cells (gcells pt pv pr g) 25 true)
 have hb := hset_at H n (.cells (gcells pt pv pr g) 25 true)
 have hr1 := hr.mono hw k1
 have hw1 := k1.wf hw
 have hx1 := (k1.keep x (live_lt hw (live_of hx))).trans hx
 have hy1 := (k1.keep y (live_lt hw (live_of hy))).trans hy
 have hgl := wg.rules
 unfold maxL at hgl
 repeat refine qqn rfl ?_
 (refine qqr ?_; simp only [SS, qx4, vun, simprocAttr, box_cells, box_one, ff_54])
 generalize hset H n (.cells (gcells pt pv pr g) 25 true) = H1 at *
 repeat (first | refine qqm rfl ?_ | ((first | refine qqr ?_ | refine qqt ?_); simp only [SS, qx4, vun, simprocAttr, hb, gc_2, gc_len, ff_54]))
 refine WK.loop (fun k s' => ∃ i : Nat, Kp (n + 1) H1 s'.n s'.H ∧ s'.f 1 = .slice (some ⟨x, 0, none⟩) us.length us.length ∧ s'.f 2 = .slice (some ⟨y, 0, none⟩) ws.length ws.length ∧ s'.f 3 = .int .i64 s ∧ s'.f 14 = .slice pr g.rules.length g.rules.length ∧ s'.f 15 = .int .i64 (g.rules.length : Nat) ∧ s'.f 16 = .int .i64 (i : Nat) ∧ i ≤ g.rules.length ∧ standsB us ws (g.rules.take i) s = false ∧ k = g.rules.length - i) g.rules.length ?_ ?_
 ·exact ⟨0, Kp.refl _ _, rfl, rfl, rfl, rfl, rfl, rfl, Nat.zero_le _, rfl, rfl⟩
 rintro kk ⟨f, n2, H2⟩ ⟨i, kp, f1, f2, f3, f14, f15, f16, hi, hst, rfl⟩ ih
 simp only at kp f1 f2 f3 f14 f15 f16 ih
 have hw2 := kp.wf hw1
 have hle := kp.le
 by_cases hlt : i < g.rules.length
 ·obtain ⟨z, kz, ds, tz, oz, p, rfl, hz0, d0, d1, d2, hp1⟩ := hr1.at hlt
  have hzl : z < n + 1 := live_lt hw1 (live_of hz0)
  have hz := (kp.keep z hzl).trans hz0
  have d3 := take3 d0 d1 d2
  have d4 := len3 d2
  have hmem := List.getElem_mem hlt
  have hl0 := ig.left0 _ hmem
  have hl1 := ig.left1 _ hmem
  have hri := ig.right _ hmem
  have hrl := (wg.right _ hmem).1
  have htk : g.rules.take (i + 1) = g.rules.take i ++ [g.rules[i]] := List.take_succ_eq_append_getElem hlt
  have hiw : IntKind.i64.wrap ((i : Int) + 1) = ((i + 1 : Nat) : Int) := by rw [wrap_in (by omega) (by omega)]; rfl
  have hin : standsB us ws g.rules s = false ∨ True := .inr trivial
  have hmm : (kpB us ws g.rules[i] && g.rules[i].right.any fun z => decide (z = s)) = true → standsB us ws g.rules s = true := fun h => standsB_pre (i := i + 1) (by rw [htk, standsB_snoc, h, Bool.or_true])
  have hnx : (kpB us ws g.rules[i] && g.rules[i].right.any fun z => decide (z = s)) = false → standsB us ws (g.rules.take (i + 1)) s = false := fun h => by rw [htk, standsB_snoc, h, hst]; rfl
  generalize g.rules[i] = r at *
  obtain ⟨l, hl⟩ : ∃ l : Nat, r.left = l := ⟨r.left.toNat, by omega⟩
  have hll : l < us.length := by omega
  have hgu : (us.map Value.bool)[l]? = some (.bool us[l]) := by rw [List.getElem?_map, List.getElem?_eq_getElem hll]; rfl
  have hkl : kpB us ws r = (us[l] && prdB r.right ws) := by unfold kpB; rw [hl, Int.toNat_natCast, List.getD_eq_getElem?_getD, List.getElem?_eq_getElem hll]; rfl
  have kR := Kp.new n2 H2 (.cells [.int .i64 r.left, .slice p r.right.length r.right.length, .float .f64 r.weight] 44 true)
  have bR := hset_at H2 n2 (.cells [.int .i64 r.left, .slice p r.right.length r.right.length, .float .f64 r.weight] 44 true)
  have kp5 := kp.trans kR
  have hx5 := (kp5.keep x (live_lt hw1 (live_of hx1))).trans hx1
  have hy5 := (kp5.keep y (live_lt hw1 (live_of hy1))).trans hy1
  have hp5 := hp1.mono hw1 kp5
  have hw5 := kp5.wf hw1
  have q0 : ([Value.int .i64 r.left, Value.slice p r.right.length r.right.length, Value.float .f64 r.weight] : List Value)[0]? = some (.int .i64 r.left) := rfl
  have q1 : ([Value.int .i64 r.left, Value.slice p r.right.length r.right.length, Value.float .f64 r.weight] : List Value)[1]? = some (.slice p r.right.length r.right.length) := rfl
  generalize hR : hset H2 n2 (.cells [.int .i64 r.left, .slice p r.right.length r.right.length, .float .f64 r.weight] 44 true) = H5 at *
  repeat refine qqn rfl ?_
  (refine qqr ?_; simp only [SS, qx4, vun, simprocAttr, f14, f15, f16, hlt, ff_54])
  repeat refine qqn rfl ?_
  refine qqm rfl ?_
  repeat refine qqn rfl ?_
  (refine qqr ?_; simp only [SS, qx4, vun, simprocAttr, f14, f16, hlt, hz, d3, d4, hR, ff_54])
  have next : ∀ (f' : Fr) (n' : Nat) (H' : Heap), Kp (n + 1) H1 n' H' → f' 1 = .slice (some ⟨x, 0, none⟩) us.length us.length → f' 2 = .slice (some ⟨y, 0, none⟩) ws.length ws.length → f' 3 = .int .i64 s → f' 14 = .slice (some ⟨z, kz, none⟩) g.rules.length g.rules.length → f' 15 = .int .i64 (g.rules.length : Nat) → f' 16 = .int .i64 ((i + 1 : Nat) : Nat) → standsB us ws (g.rules.take (i + 1)) s = false → _ := fun f' n' H' k g1 g2 g3 g14 g15 g16 hs => ih (g.rules.length - (i + 1)) (by omega) ⟨f', n', H'⟩ ⟨i + 1, k, g1, g2, g3, g14, g15, g16, hlt, hs, rfl⟩
  cases hu : us[l]
  ·rw [hu] at hgu
   repeat (first | refine qqm rfl ?_ | ((first | refine qqr ?_ | refine qqt ?_); simp only [SS, qx4, vun, simprocAttr, f1, f2, f3, f16, hl, bR, q0, hx5, hll, hgu, hiw, ff_54]))
   exact next _ _ _ kp5 f1 f2 f3 f14 f15 rfl (hnx (by rw [hkl, hu]; rfl))
  ·rw [hu] at hgu
   repeat (first | refine qqm rfl ?_ | ((first | refine qqr ?_ | refine qqt ?_); simp only [SS, qx4, vun, simprocAttr, f1, f2, f3, f16, hl, bR, q0, hx5, hll, hgu, hiw, ff_54]))
   refine AtCall.by (wholeU_gives hw5 hp5 hy5 hrl (fun s hs => by rw [hwl]; exact hri s hs)) ?_
   rintro v n6 H6 k6 rfl
   have kp6 := kp5.trans k6
   have b6 := (k6.keep n2 (by omega)).trans bR
   cases hpr : prdB r.right ws
   ·simp only [SS, qx4, vun, simprocAttr, ff_54]
    repeat (first | refine qqm rfl ?_ | ((first | refine qqr ?_ | refine qqt ?_); simp only [SS, qx4, vun, simprocAttr, f16, hiw, ff_54]))
    exact next _ _ _ kp6 f1 f2 f3 f14 f15 rfl (hnx (by rw [hkl, hu, hpr]; rfl))
   ·simp only [SS, qx4, vun, simprocAttr, ff_54]
    repeat (first | refine qqm rfl ?_ | ((first | refine qqr ?_ | refine qqt ?_); simp only [SS, qx4, vun, simprocAttr, b6, q1, hl, ff_54]))
    have hkt : kpB us ws r = true := by rw [hkl, hu, hpr]; rfl
    rw [hkt, Bool.true_and] at hmm hnx
    refine WK.loop (fun k s' => ∃ j : Nat, s'.n = n6 ∧ s'.H = H6 ∧ s'.f 1 = .slice (some ⟨x, 0, none⟩) us.length us.length ∧ s'.f 2 = .slice (some ⟨y, 0, none⟩) ws.length ws.length ∧ s'.f 3 = .int .i64 s ∧ s'.f 14 = .slice (some ⟨z, kz, none⟩) g.rules.length g.rules.length ∧ s'.f 15 = .int .i64 (g.rules.length : Nat) ∧ s'.f 16 = .int .i64 (i : Nat) ∧ s'.f 33 = .slice p r.right.length r.right.length ∧ s'.f 34 = .int .i64 (r.right.length : Nat) ∧ s'.f 35 = .int .i64 (j : Nat) ∧ j ≤ r.right.length ∧ ((r.right.take j).any fun z => decide (z = s)) = false ∧ k = r.right.length - j) r.right.length ?_ ?_
    ·exact ⟨0, rfl, rfl, f1, f2, f3, f14, f15, f16, rfl, rfl, rfl, Nat.zero_le _, rfl, rfl⟩
    clear f1 f2 f3 f14 f15 f16
    rintro kk2 ⟨f, n7, H7⟩ ⟨j, rfl, rfl, f1, f2, f3, f14, f15, f16, f33, f34, f35, hj, hno, rfl⟩ ih2
    simp only at f1 f2 f3 f14 f15 f16 f33 f34 f35 ih2 kp6 b6
    have hp7 : RA (Value.int .i64) H7 p r.right := hp1.mono hw1 kp6
    unfold maxL at hrl
    have hjw : j < r.right.length → IntKind.i64.wrap ((j : Int) + 1) = ((j + 1 : Nat) : Int) := fun h => by rw [wrap_in (by omega) (by omega)]; rfl
    by_cases hjl : j < r.right.length
    ·obtain ⟨zx, kx, dx, tx, ox, rfl, hzx, ex⟩ := hp7.at hjl
     have hjw := hjw hjl
     by_cases e : r.right[j] = s
     ·have e' := eq_true e
      repeat (first | refine qqm rfl ?_ | ((first | refine qqr ?_ | refine qqt ?_); simp only [SS, qx4, vun, simprocAttr, f3, f33, f34, f35, hjl, hzx, ex, e', decide_true, ff_54]))
      first | refine qqf ?_ ?_ | refine qqg ?_ ?_
      ·exact (k1.trans kp6).keep
      ·simp only [packed, qv, Nat.reduceEqDiff, ↓reduceIte, ff_54]
       rw [hmm (List.any_eq_true.2 ⟨_, List.getElem_mem hjl, decide_eq_true e⟩)]
     ·have e' := eq_false e
      repeat (first | refine qqm rfl ?_ | ((first | refine qqr ?_ | refine qqt ?_); simp only [SS, qx4, vun, simprocAttr, f3, f33, f34, f35, hjl, hzx, ex, e', decide_false, hjw, ff_54]))
      exact ih2 (r.right.length - (j + 1)) (by omega) _ ⟨j + 1, rfl, rfl, f1, f2, f3, f14, f15, f16, f33, f34, rfl, hjl, by rw [List.take_succ_eq_append_getElem hjl, List.any_append, hno]; simp [e], rfl⟩
    ·rw [List.take_of_length_le (by omega)] at hno
     repeat (first | refine qqm rfl ?_ | ((first | refine qqr ?_ | refine qqt ?_); simp only [SS, qx4, vun, simprocAttr, f33, f34, f35, hjl, f16, hiw, ff_54]))
     exact next _ _ _ kp6 f1 f2 f3 f14 f15 rfl (hnx hno)
 ·rw [List.take_of_length_le (by omega)] at hst
  repeat (first | refine qqm rfl ?_ | ((first | refine qqr ?_ | refine qqt ?_); simp only [SS, qx4, vun, simprocAttr, f14, f15, f16, hlt, ff_54]))
  first | refine qqf ?_ ?_ | refine qqg ?_ ?_
  ·exact (k1.trans kp).keep
  ·simp only [packed, qv, Nat.reduceEqDiff, ↓reduceIte, ff_54]
   rw [hst]
end Go.Proofs.YtihjaobjhmmboaaGreatDoor

namespace Go.Proofs.YtihjaobjhmmboaaGreatDoor
open Go.AM
set_option maxRecDepth 100000
def uB (us : List Bool) (v : Nat) : Bool := us.getD v false
def stB (g : Gram) (us ws : List Bool) (t : Nat) : Bool := standsB us ws g.rules (-(t : Int) - 1)
theorem uB_hold {us : List Bool} {v : Nat} : uB us v = true ↔ hold us v := by
 rw [hold_nat]
 unfold uB
 rw [List.getD_eq_getElem?_getD]
 cases us[v]? with
 | none => simp
 | some b => simp
theorem keeps_of {g : Gram} {us ws : List Bool} (hi : InG g) (hu : ∀ v, hold us v ↔ Usd g v) (hp : ∀ v, hold ws v ↔ Prd g v) : Keeps g (uB us) (stB g us ws) (kpB us ws) where
 inG := hi
 var := fun v _ => uB_hold.trans (hu v)
 rule := fun r hr => by
  have h0 := hi.left0 r hr
  have e : (r.left.toNat : Int) = r.left := by omega
  have h1 : us.getD r.left.toNat false = true ↔ Usd g r.left := by
   have := (uB_hold (us := us) (v := r.left.toNat)).trans (hu _)
   rw [e] at this
   exact this
  unfold kpB
  rw [Bool.and_eq_true, h1, prdB_hold]
  exact and_congr_right fun _ => ⟨fun h s hs h0 => (hp s).1 (h s hs h0), fun h s hs h0 => (hp s).2 (h s hs h0)⟩
 term := fun t _ => by
  unfold stB standsB
  rw [List.any_eq_true]
  constructor
  ·rintro ⟨r, hr, h⟩
   rw [Bool.and_eq_true, List.any_eq_true] at h
   obtain ⟨h1, z, hz, h2⟩ := h
   have := of_decide_eq_true h2
   subst this
   exact ⟨r, hr, h1, hz⟩
  ·rintro ⟨r, hr, h1, h2⟩
   refine ⟨r, hr, ?_⟩
   rw [Bool.and_eq_true, List.any_eq_true]
   exact ⟨h1, _, h2, decide_eq_true rfl⟩
def wasL (us : List Bool) (m : Nat) : List Int := pk (uB us) 0 ((List.range m).map fun v : Nat => (v : Int))
theorem was_snoc (us : List Bool) (i : Nat) : wasL us (i + 1) = wasL us i ++ if uB us i then [(i : Int)] else [] := by
 unfold wasL
 rw [List.range_succ, List.map_append, List.map_singleton, pk_snoc]
 simp
theorem was_len (us : List Bool) (m : Nat) : (wasL us m).length = rk (uB us) m := by
 unfold wasL
 rw [pk_len]
 simp
end Go.Proofs.YtihjaobjhmmboaaGreatDoor

namespace Go.Proofs.YtihjaobjhmmboaaGreatDoor
open Go.AM
set_option maxRecDepth 100000
def natC (u : Nat) : Value := .int .i64 (u : Nat)
end Go.Proofs.YtihjaobjhmmboaaGreatDoor

namespace Go.Proofs.YtihjaobjhmmboaaGreatDoor
open Go.AM
set_option maxRecDepth 100000
theorem rep_int (l : Nat) : rep l [Value.int .i64 (Int.ofNat 0)] = (List.replicate l (0 : Int)).map (Value.int .i64) := by
 induction l with
 | zero => rfl
 | succ l ih => rw [List.replicate_succ, List.map_cons, ← ih]; rfl
structure CSt (n : Nat) (H : Heap) (pt pv pr : Option Addr) (g : Gram) (xd n' : Nat) (H' : Heap) (cl : List Nat) (bl : List Int) (dl : List Bool) : Prop where
 kp : Kp n H n' H'
 box : H' n = .cells (gcells pt pv pr g) 25 true
 hc : H' (n + 1) = .cells (cl.map natC) 3 true
 hb : H' (n + 2) = .cells (bl.map (Value.int .i64)) 3 true
 hd : H' xd = .cells (dl.map .bool) 4 true
 lc : cl.length = g.vars.length
 lb : bl.length = g.vars.length
 ld : dl.length = g.vars.length
end Go.Proofs.YtihjaobjhmmboaaGreatDoor
