/- A part of a proof. Its conditions: none. -/
import Derived.Test.YtihjaobjhmmboaaGreatDoorAmUGRight
import Derived.Test.YtihjaobjhmmboaaGreatDoorAmULfNullable
import Derived.Test.YtihjaobjhmmboaaGreatDoorAmC
import Derived.Test.YtihjaobjhmmboaaGreatDoorAmD
set_option linter.all false
namespace Go.Proofs.YtihjaobjhmmboaaGreatDoor
open Go.AM
set_option maxRecDepth 100000
structure RulesOK (g : Gram) : Prop where
 terms : g.terms.length ≤ 64
 rules : g.rules.length ≤ 256
 left : ∀ r ∈ g.rules, 0 ≤ r.left ∧ r.left < g.vars.length
 len : ∀ r ∈ g.rules, r.right.length ≤ 24
 sym : ∀ r ∈ g.rules, ∀ s ∈ r.right, s < g.vars.length ∧ (s < 0 → -s - 1 < g.terms.length)
 told : ∀ r ∈ g.rules, toldB r.weight
set_option maxHeartbeats 16000000 in
theorem gRight_gives {pt pv pr : Option Addr} {g : Gram} {n : Nat} {H : Heap} (hG : GH n H) (ht : RA Value.string H pt g.terms) (hv : RA Value.string H pv g.vars) (hr : RR H pr g.rules) (hvo : g.vars ≠ [] → Fgn H pv) (wg : WG g) (ro : RulesOK g) :
    Gives Tryz.prog 24 [.agg (gcells pt pv pr g).toArray] n H fun v _ _ => ∃ t, v = .bool t ∧ (t = true → ∀ u : Nat, u < g.vars.length → ∃ r ∈ g.rules, r.left = u) := by
  have hw := hG.1
  refine Gives.of orders ok24 (Nat.le_of_ble_eq_true rfl) ?_
  have k1 := Kp.new n H (.cells (gcells pt pv pr g) 25 true)
  have hb := hset_at H n (.cells (gcells pt pv pr g) 25 true)
  have ht1 := ht.mono hw k1
  have hv1 := hv.mono hw k1
  have hr1 := hr.mono hw k1
  have hw1 := k1.wf hw
  have hwt := wg.terms
  have hwv := wg.vars
  have hrl := ro.rules
  unfold maxL at hwt hwv
  have hvo1 : g.vars ≠ [] → Fgn (hset H n (.cells (gcells pt pv pr g) 25 true)) pv := fun h0 x k' cs ty own e1 e2 => by
    have hx : x < n := Classical.byContradiction fun hc => by
      obtain ⟨x', k2, cs', ty', own', f1, f2, _⟩ := hv h0
      rw [f1] at e1
      cases e1
      rw [hw x (by omega)] at f2; cases f2
    exact hvo h0 x k' cs ty own e1 (by rw [← k1.keep x hx]; exact e2)
  repeat refine qqn rfl ?_
  (refine qqr ?_; simp only [SS, qx3, vun, simprocAttr, box_cells, box_one, ff_24])
  have hG1 := hG.keep k1
  generalize hset H n (.cells (gcells pt pv pr g) 25 true) = H1 at *
  repeat (first | refine qqm rfl ?_ | ((first | refine qqr ?_ | refine qqt ?_); simp only [SS, qx3, vun, simprocAttr, hb, gc_all, gc_len, ff_24]))
  refine AtCall.by (gnames_gives hw1 ht1 hv1 hvo1 wg) ?_
  rintro v n2 H2 k2 ⟨t, rfl⟩
  have hw2 := k2.wf hw1
  have hle2 := k2.le
  cases t with
  | false =>
    simp only [SS, qx3, vun, simprocAttr, ff_24]
    repeat (first | refine qqm rfl ?_ | ((first | refine qqr ?_ | refine qqt ?_); simp only [SS, qx3, vun, simprocAttr, ff_24]))
    first | refine qqf ?_ ?_ | refine qqg ?_ ?_
    · exact (k1.trans k2).keep
    · simp only [packed, qv, Nat.reduceEqDiff, ↓reduceIte, ff_24]
      exact ⟨_, rfl, fun h => by cases h⟩
  | true =>
    have h256 : ¬ (256 : Int) < (g.rules.length : Int) := by omega
    have htl : (g.terms.length : Int) ≤ bigN := by have := ro.terms; unfold bigN; omega
    have hb2 := (k2.keep n (by omega)).trans hb
    simp only [SS, qx3, vun, simprocAttr, hb2, gc_2, gc_len, h256, ff_24]
    repeat refine qqn rfl ?_
    refine qqm rfl ?_
    repeat refine qqn rfl ?_
    (refine qqr ?_; simp only [SS, qx3, vun, simprocAttr, ff_24])
    repeat refine qqn rfl ?_
    (refine qqr ?_; simp only [SS, qx3, vun, simprocAttr, hb2, gc_0, gc_len, htl, ff_24])
    rw [rep_map]
    have kY := Kp.new n2 H2 (.cells ((List.replicate g.terms.length false).map .bool) 4 true)
    have bY := hset_at H2 n2 (.cells ((List.replicate g.terms.length false).map .bool) 4 true)
    have k3 := k1.trans (k2.trans kY)
    have hbY := (kY.keep n (by omega)).trans hb2
    generalize hset H2 n2 (.cells ((List.replicate g.terms.length false).map .bool) 4 true) = HY at *
    have hGY := hG.keep k3
    repeat (first | refine qqm rfl ?_ | ((first | refine qqr ?_ | refine qqt ?_); simp only [SS, qx3, vun, simprocAttr, hbY, gc_2, gc_len, ff_24]))
    refine WK.loop (fun k s => ∃ (i m : Nat) (us : List Bool), Kp (n + 1) H1 s.n s.H ∧ s.f 1 = .pointer (some ⟨n, 0, none⟩) ∧ s.f 3 = .int .i64 (m : Nat) ∧ s.f 4 = .slice (some ⟨n2, 0, none⟩) g.terms.length g.terms.length ∧ s.f 24 = .slice pr g.rules.length g.rules.length ∧ s.f 25 = .int .i64 (g.rules.length : Nat) ∧ s.f 26 = .int .i64 (i : Nat) ∧
      n2 < s.n ∧ s.H n2 = .cells (us.map .bool) 4 true ∧ us.length = g.terms.length ∧ i ≤ g.rules.length ∧ m ≤ g.vars.length ∧ (∀ u : Nat, u < m → ∃ r ∈ g.rules, r.left = u) ∧ k = g.rules.length - i) g.rules.length ?_ ?_
    · exact ⟨0, 0, _, k2.trans kY, rfl, rfl, rfl, rfl, rfl, rfl, by show n2 < n2 + 1; omega, bY, by simp, Nat.zero_le _, Nat.zero_le _, fun u hu => absurd hu (Nat.not_lt_zero _), rfl⟩
    clear bY kY hbY k3 hGY
    rintro kk ⟨f, n4, H4⟩ ⟨i, m, us, kp, f1, f3, f4, f24, f25, f26, hn4, hu, hul, hi, hm, hcov, rfl⟩ ih
    simp only at f1 f3 f4 f24 f25 f26 kp hn4 hu ih
    have hw4 := kp.wf hw1
    have hG4 := hG1.keep kp
    have hb4 := (kp.keep n (by omega)).trans hb
    have hr4 := hr1.mono hw1 kp
    have keep4 : ∀ x, x < n → H4 x = H x := fun x hx => (kp.keep x (by omega)).trans (k1.keep x hx)
    have bad : ∀ (t : Bool), t = false → ∃ t', Value.bool t = .bool t' ∧ (t' = true → ∀ u : Nat, u < g.vars.length → ∃ r ∈ g.rules, r.left = u) := fun t h => ⟨t, rfl, fun h' => by rw [h] at h'; cases h'⟩
    by_cases hlt : i < g.rules.length
    · obtain ⟨z, kz, ds, tz, oz, p, rfl, hz0, d0, d1, d2, hp1⟩ := hr1.at hlt
      have hzl : z < n + 1 := Classical.byContradiction fun hc => by rw [hw1 z (by omega)] at hz0; cases hz0
      have hz := (kp.keep z hzl).trans hz0
      have hp := hp1.mono hw1 kp
      have d3 := take3 d0 d1 d2
      have d4 : kz + i * 3 + 3 ≤ ds.length := by have := (List.getElem?_eq_some_iff.1 d2).1; omega
      have hmem := List.getElem_mem hlt
      obtain ⟨hl0, hl1⟩ := ro.left _ hmem
      have hlen := ro.len _ hmem
      have hsym := ro.sym _ hmem
      have htold := ro.told _ hmem
      have hwgt := wg.weight _ hmem
      have hri := (wg.right _ hmem).2
      have hrest : ∀ (j : Nat) (hj : j < i), ∃ (q : Option Addr), ds[kz + j * 3]? = some (.int .i64 (g.rules[j]'(by omega)).left) ∧ ds[kz + j * 3 + 1]? = some (.slice q (g.rules[j]'(by omega)).right.length (g.rules[j]'(by omega)).right.length) ∧ RA (Value.int .i64) H1 q (g.rules[j]'(by omega)).right := fun j hj => by
        obtain ⟨z', kz', ds', tz', oz', q, e, hz', e0, e1, _, hq⟩ := hr1.at (i := j) (by omega)
        cases e
        rw [hz0] at hz'
        cases hz'
        exact ⟨q, e0, e1, hq⟩
      have hiw : IntKind.i64.wrap ((i : Int) + 1) = ((i + 1 : Nat) : Int) := by rw [wrap_in (by omega) (by omega)]; rfl
      have hmem' := hmem
      generalize hrr : g.rules[i] = r at *
      have kR := Kp.new n4 H4 (.cells [.int .i64 r.left, .slice p r.right.length r.right.length, .float .f64 r.weight] 44 true)
      have bR := hset_at H4 n4 (.cells [.int .i64 r.left, .slice p r.right.length r.right.length, .float .f64 r.weight] 44 true)
      have hR4 := kR.le
      have bR' := (kR.keep n2 hn4).trans hu
      have bb' := (kR.keep n (by have := kp.le; omega)).trans hb4
      have hz' := (kR.keep z (by have := kp.le; omega)).trans hz
      have hG5 := hG4.keep kR
      have hp5 := hp.mono hw4 kR
      have kp5 := kp.trans kR
      have hn2n4 := kp.le
      generalize hR : hset H4 n4 (.cells [.int .i64 r.left, .slice p r.right.length r.right.length, .float .f64 r.weight] 44 true) = H5 at *
      have hw5 := hG5.1
      repeat refine qqn rfl ?_
      (refine qqr ?_; simp only [SS, qx3, vun, simprocAttr, f1, f3, f4, f24, f25, f26, hlt, ff_24])
      repeat refine qqn rfl ?_
      refine qqm rfl ?_
      repeat refine qqn rfl ?_
      (refine qqr ?_; simp only [SS, qx3, vun, simprocAttr, f1, f3, f4, f24, f25, f26, hlt, hz, d3, d4, hR, ff_24])
      apply WK.skipSeq
      apply WK.seq
      have hw1' : IntKind.i64.wrap ((m : Int) - 1) = (m : Int) - 1 := by rw [wrap_in (by omega) (by omega)]
      have hl0' : ¬ r.left < 0 := by omega
      have hl1' : ¬ (g.vars.length : Int) ≤ r.left := by omega
      have hlen' : ¬ (24 : Int) < (r.right.length : Int) := by omega
      have q0 : ([Value.int .i64 r.left, Value.slice p r.right.length r.right.length, Value.float .f64 r.weight] : List Value)[0]? = some (.int .i64 r.left) := rfl
      have q1 : ([Value.int .i64 r.left, Value.slice p r.right.length r.right.length, Value.float .f64 r.weight] : List Value)[1]? = some (.slice p r.right.length r.right.length) := rfl
      have q2 : ([Value.int .i64 r.left, Value.slice p r.right.length r.right.length, Value.float .f64 r.weight] : List Value)[2]? = some (.float .f64 r.weight) := rfl
      have keep5 : ∀ x, x < n → H5 x = H x := fun x hx => (kR.keep x (by omega)).trans (keep4 x hx)
      obtain ⟨Lft, hL⟩ : ∃ Lft : Prop, Lft = (r.left = m ∨ r.left = (m : Int) - 1) := ⟨_, rfl⟩
      refine WK.cutRet (fun s => Kp (n4 + 1) H5 s.n s.H ∧ s.f 1 = .pointer (some ⟨n, 0, none⟩) ∧ s.f 3 = .int .i64 (m : Nat) ∧ s.f 4 = .slice (some ⟨n2, 0, none⟩) g.terms.length g.terms.length ∧ s.f 5 = .int .i64 (i : Nat) ∧ s.f 6 = .pointer (some ⟨n4, 0, none⟩) ∧ s.f 24 = .slice (some ⟨z, kz, none⟩) g.rules.length g.rules.length ∧ s.f 25 = .int .i64 (g.rules.length : Nat) ∧ s.f 26 = .int .i64 (i : Nat) ∧ Lft) ?_ ?_
      · by_cases e1 : r.left = m
        · have e1' := eq_true e1
          repeat (first | refine qqm rfl ?_ | ((first | refine qqr ?_ | refine qqt ?_); simp only [SS, qx3, vun, simprocAttr, f1, f3, bR, bb', q0, q1, q2, gc_1, gc_len, e1', hl0', hl1', hlen', hw1', decide_true, decide_false, Bool.not_true, ff_24]))
          refine AtCall.by (gtold_gives hwgt htold hG5) ?_
          rintro v n6 H6 k6 ⟨t, rfl⟩
          cases t with
          | false =>
            simp only [SS, qx3, vun, simprocAttr, ff_24]
            repeat (first | refine qqm rfl ?_ | ((first | refine qqr ?_ | refine qqt ?_); simp only [SS, qx3, vun, simprocAttr, ff_24]))
            refine WK.retNil (.inr ⟨rfl, Or.inr rfl, _, rfl, ?_, ?_⟩)
            · exact fun x hx => (k6.keep x (by omega)).trans (keep5 x hx)
            · simp only [packed, qv, Nat.reduceEqDiff, ↓reduceIte, ff_24]
              exact bad _ rfl
          | true =>
            simp only [SS, qx3, vun, simprocAttr, ff_24]
            repeat (first | refine qqm rfl ?_ | ((first | refine qqr ?_ | refine qqt ?_); simp only [SS, qx3, vun, simprocAttr, ff_24]))
            exact WK.skipNil (.inl ⟨rfl, k6, f1, f3, f4, rfl, rfl, f24, f25, f26, by rw [hL]; exact .inl e1⟩)
        · have e1' := eq_false e1
          by_cases e2 : r.left = (m : Int) - 1
          · have e2' := eq_true e2
            repeat (first | refine qqm rfl ?_ | ((first | refine qqr ?_ | refine qqt ?_); simp only [SS, qx3, vun, simprocAttr, f1, f3, bR, bb', q0, q1, q2, gc_1, gc_len, e1', e2', hl0', hl1', hlen', hw1', decide_true, decide_false, Bool.not_true, Bool.not_false, ff_24]))
            refine AtCall.by (gtold_gives hwgt htold hG5) ?_
            rintro v n6 H6 k6 ⟨t, rfl⟩
            cases t with
            | false =>
              simp only [SS, qx3, vun, simprocAttr, ff_24]
              repeat (first | refine qqm rfl ?_ | ((first | refine qqr ?_ | refine qqt ?_); simp only [SS, qx3, vun, simprocAttr, ff_24]))
              refine WK.retNil (.inr ⟨rfl, Or.inr rfl, _, rfl, ?_, ?_⟩)
              · exact fun x hx => (k6.keep x (by omega)).trans (keep5 x hx)
              · simp only [packed, qv, Nat.reduceEqDiff, ↓reduceIte, ff_24]
                exact bad _ rfl
            | true =>
              simp only [SS, qx3, vun, simprocAttr, ff_24]
              repeat (first | refine qqm rfl ?_ | ((first | refine qqr ?_ | refine qqt ?_); simp only [SS, qx3, vun, simprocAttr, ff_24]))
              exact WK.skipNil (.inl ⟨rfl, k6, f1, f3, f4, rfl, rfl, f24, f25, f26, by rw [hL]; exact .inr e2⟩)
          · have e2' := eq_false e2
            repeat (first | refine qqm rfl ?_ | ((first | refine qqr ?_ | refine qqt ?_); simp only [SS, qx3, vun, simprocAttr, f1, f3, bR, bb', q0, q1, q2, gc_1, gc_len, e1', e2', hl0', hl1', hlen', hw1', decide_true, decide_false, Bool.not_true, Bool.not_false, ff_24]))
            refine WK.retNil (.inr ⟨rfl, Or.inr rfl, _, rfl, ?_, ?_⟩)
            · exact keep5
            · simp only [packed, qv, Nat.reduceEqDiff, ↓reduceIte, ff_24]
              exact bad _ rfl
      clear f1 f3 f4 f24 f25 f26
      rintro ⟨f, n6, H6⟩ ⟨k6, f1, f3, f4, f5, f6, f24, f25, f26, hleft⟩
      simp only at k6 f1 f3 f4 f5 f6 f24 f25 f26
      rw [hL] at hleft
      have hle6 := k6.le
      have u6 := (k6.keep n2 (by omega)).trans bR'
      have b6 := (k6.keep n (by omega)).trans bb'
      have r6 := (k6.keep n4 (by omega)).trans bR
      obtain ⟨m', hm'⟩ : ∃ m' : Nat, r.left + 1 = (m' : Int) := ⟨(r.left + 1).toNat, by omega⟩
      have hlw : IntKind.i64.wrap (m' : Int) = (m' : Int) := by rw [wrap_in (by omega) (by omega)]
      have hm'v : m' ≤ g.vars.length := by omega
      have hcov' : ∀ u : Nat, u < m' → ∃ r ∈ g.rules, r.left = u := fun u hu => by
        by_cases e : (u : Int) = r.left
        · exact ⟨r, hmem', e.symm⟩
        · exact hcov u (by omega)
      repeat (first | refine qqm rfl ?_ | ((first | refine qqr ?_ | refine qqt ?_); simp only [SS, qx3, vun, simprocAttr, f6, r6, q0, q1, hm', hlw, ff_24]))
      refine WK.cutRetBlock (fun s => Kp (n + 1) H1 s.n s.H ∧ ∃ us' : List Bool, us'.length = g.terms.length ∧ n2 < s.n ∧ s.H n2 = .cells (us'.map .bool) 4 true ∧ s.H n4 = .cells [.int .i64 r.left, .slice p r.right.length r.right.length, .float .f64 r.weight] 44 true ∧ n4 < s.n ∧ s.f 1 = .pointer (some ⟨n, 0, none⟩) ∧ s.f 3 = .int .i64 (m' : Nat) ∧ s.f 4 = .slice (some ⟨n2, 0, none⟩) g.terms.length g.terms.length ∧ s.f 5 = .int .i64 (i : Nat) ∧ s.f 6 = .pointer (some ⟨n4, 0, none⟩) ∧ s.f 24 = .slice (some ⟨z, kz, none⟩) g.rules.length g.rules.length ∧ s.f 25 = .int .i64 (g.rules.length : Nat) ∧ s.f 26 = .int .i64 (i : Nat)) ?_ ?_
      · refine WK.loop (fun k s => ∃ (j : Nat) (us' : List Bool), Kp (n + 1) H1 s.n s.H ∧ us'.length = g.terms.length ∧ n2 < s.n ∧ s.H n2 = .cells (us'.map .bool) 4 true ∧ s.H n4 = .cells [.int .i64 r.left, .slice p r.right.length r.right.length, .float .f64 r.weight] 44 true ∧ n4 < s.n ∧ s.f 1 = .pointer (some ⟨n, 0, none⟩) ∧ s.f 3 = .int .i64 (m' : Nat) ∧ s.f 4 = .slice (some ⟨n2, 0, none⟩) g.terms.length g.terms.length ∧ s.f 5 = .int .i64 (i : Nat) ∧ s.f 6 = .pointer (some ⟨n4, 0, none⟩) ∧ s.f 24 = .slice (some ⟨z, kz, none⟩) g.rules.length g.rules.length ∧ s.f 25 = .int .i64 (g.rules.length : Nat) ∧ s.f 26 = .int .i64 (i : Nat) ∧
          s.f 71 = .slice p r.right.length r.right.length ∧ s.f 72 = .int .i64 (r.right.length : Nat) ∧ s.f 73 = .int .i64 (j : Nat) ∧ j ≤ r.right.length ∧ k = r.right.length - j) r.right.length ?_ ?_
        · exact ⟨0, us, kp5.trans k6, hul, by show n2 < n6; omega, u6, r6, by show n4 < n6; omega, f1, rfl, f4, f5, f6, f24, f25, f26, rfl, rfl, rfl, Nat.zero_le _, rfl⟩
        clear f1 f3 f4 f5 f6 f24 f25 f26 u6 b6 r6
        rintro kk2 ⟨f, n7, H7⟩ ⟨j, us', kp7, hul7, hn7, u7, r7, hn47, f1, f3, f4, f5, f6, f24, f25, f26, f71, f72, f73, hj, rfl⟩ ih2
        simp only at kp7 hn7 u7 r7 hn47 f1 f3 f4 f5 f6 f24 f25 f26 f71 f72 f73 ih2
        have hw7 := kp7.wf hw1
        have b7 := (kp7.keep n (by omega)).trans hb
        have hg7 : RG H7 (.agg (gcells pt pv (some ⟨z, kz, none⟩) g).toArray) g := ⟨pt, pv, _, rfl, ht1.mono hw1 kp7, hv1.mono hw1 kp7, hr1.mono hw1 kp7⟩
        have keep7 : ∀ x, x < n → H7 x = H x := fun x hx => (kp7.keep x (by omega)).trans (k1.keep x hx)
        by_cases hjl : j < r.right.length
        · have hp7 : RA (Value.int .i64) H7 p r.right := hp1.mono hw1 kp7
          obtain ⟨zx, kx, dx, tx, ox, rfl, hzx, ex⟩ := hp7.at hjl
          have hjw : IntKind.i64.wrap ((j : Int) + 1) = ((j + 1 : Nat) : Int) := by rw [wrap_in (by omega) (by omega)]; rfl
          obtain ⟨hs1, hs2⟩ := hsym _ (List.getElem_mem hjl)
          have hsi := hri _ (List.getElem_mem hjl)
          generalize r.right[j] = s at *
          have hsx : (if 0 ≤ s then decide (s < (g.vars.length : Int)) else decide (-s - 1 < (g.terms.length : Int))) = true := by
            split
            · exact decide_eq_true hs1
            · exact decide_eq_true (hs2 (by omega))
          repeat (first | refine qqm rfl ?_ | ((first | refine qqr ?_ | refine qqt ?_); simp only [SS, qx3, vun, simprocAttr, f1, f71, f72, f73, hjl, hzx, ex, b7, gc_all, gc_len, ff_24]))
          refine AtCall.by (gsymbol_gives hw7 hg7 hsi ⟨wg.vars, wg.terms⟩) ?_
          rintro v n8 H8 k8 rfl
          rw [hsx]
          have hw8 := k8.wf hw7
          have kp8 := kp7.trans k8
          have u8 := (k8.keep n2 hn7).trans u7
          have r8 := (k8.keep n4 hn47).trans r7
          have hle8 := k8.le
          simp only [SS, qx3, vun, simprocAttr, Bool.not_true, ff_24]
          repeat (first | refine qqm rfl ?_ | ((first | refine qqr ?_ | refine qqt ?_); simp only [SS, qx3, vun, simprocAttr, ff_24]))
          refine AtCall.by (isVar_gives _ _ _) ?_
          rintro v n9 H9 k9 ⟨rfl, rfl, rfl⟩
          by_cases h0 : 0 ≤ s
          · simp only [SS, qx3, vun, simprocAttr, h0, decide_true, Bool.not_true, ff_24]
            repeat (first | refine qqm rfl ?_ | ((first | refine qqr ?_ | refine qqt ?_); simp only [SS, qx3, vun, simprocAttr, f73, hjw, ff_24]))
            refine ih2 (r.right.length - (j + 1)) (by omega) _ ?_
            exact ⟨j + 1, us', kp8, hul7, by show n2 < n9; omega, u8, r8, by show n4 < n9; omega, f1, f3, f4, f5, f6, f24, f25, f26, f71, f72, rfl, hjl, rfl⟩
          · unfold inI at hsi
            have hn := bnot_i64 hsi.1 hsi.2
            obtain ⟨q, hq⟩ : ∃ q : Nat, -s - 1 = (q : Int) := ⟨(-s - 1).toNat, by omega⟩
            have hqt : q < g.terms.length := by have := hs2 (by omega); omega
            have hqs : (us'.map Value.bool).set q (.bool true) = (us'.set q true).map .bool := by rw [List.map_set]
            have hq1 : q + 1 ≤ us'.length := by omega
            rw [hq] at hn
            have kS := kp8.set (x := n2) (.cells ((us'.set q true).map .bool) 4 true) (by omega) (by omega)
            simp only [SS, qx3, vun, simprocAttr, h0, decide_false, Bool.not_false, ff_24]
            repeat (first | refine qqm rfl ?_ | ((first | refine qqr ?_ | refine qqt ?_); simp only [SS, qx3, vun, simprocAttr, f4, f73, hjw, hn, hqt, u8, hqs, hq1, List.length_map, ff_24]))
            refine ih2 (r.right.length - (j + 1)) (by omega) _ ?_
            exact ⟨j + 1, us'.set q true, kS, by simpa using hul7, by show n2 < n9; omega, hset_at _ _ _, (hset_ne _ _ _ (by omega)).trans r8, by show n4 < n9; omega, f1, f3, f4, f5, f6, f24, f25, f26, f71, f72, rfl, hjl, rfl⟩
        · repeat (first | refine qqm rfl ?_ | ((first | refine qqr ?_ | refine qqt ?_); simp only [SS, qx3, vun, simprocAttr, f71, f72, f73, hjl, ff_24]))
          exact WK.skipNil (.inl ⟨rfl, kp7, us', hul7, hn7, u7, r7, hn47, f1, f3, f4, f5, f6, f24, f25, f26⟩)
      clear f1 f3 f4 f5 f6 f24 f25 f26 u6 b6 r6
      rintro ⟨f, n7, H7⟩ ⟨kp7, us', hul7, hn7, u7, r7, hn47, f1, f3, f4, f5, f6, f24, f25, f26⟩
      simp only at kp7 hn7 u7 r7 hn47 f1 f3 f4 f5 f6 f24 f25 f26
      have hw7 := kp7.wf hw1
      have b7 := (kp7.keep n (by omega)).trans hb
      have z7 := (kp7.keep z hzl).trans hz0
      have keep7 : ∀ x, x < n → H7 x = H x := fun x hx => (kp7.keep x (by omega)).trans (k1.keep x hx)
      have hiw1 : IntKind.i64.wrap ((i : Int) - 1) = (i : Int) - 1 := by rw [wrap_in (by omega) (by omega)]
      repeat refine qqn rfl ?_
      (refine qqr ?_; simp only [SS, qx3, vun, simprocAttr, f5, hiw1, ff_24])
      repeat refine qqn rfl ?_
      refine WK.cutRetBlock (fun s => s.n = n7 ∧ s.H = H7 ∧ s.f 1 = .pointer (some ⟨n, 0, none⟩) ∧ s.f 3 = .int .i64 (m' : Nat) ∧ s.f 4 = .slice (some ⟨n2, 0, none⟩) g.terms.length g.terms.length ∧ s.f 24 = .slice (some ⟨z, kz, none⟩) g.rules.length g.rules.length ∧ s.f 25 = .int .i64 (g.rules.length : Nat) ∧ s.f 26 = .int .i64 (i : Nat)) ?_ ?_
      · refine WK.loop (fun k s => ∃ q : Nat, s.n = n7 ∧ s.H = H7 ∧ s.f 1 = .pointer (some ⟨n, 0, none⟩) ∧ s.f 3 = .int .i64 (m' : Nat) ∧ s.f 4 = .slice (some ⟨n2, 0, none⟩) g.terms.length g.terms.length ∧ s.f 6 = .pointer (some ⟨n4, 0, none⟩) ∧ s.f 24 = .slice (some ⟨z, kz, none⟩) g.rules.length g.rules.length ∧ s.f 25 = .int .i64 (g.rules.length : Nat) ∧ s.f 26 = .int .i64 (i : Nat) ∧ s.f 9 = .int .i64 ((q : Int) - 1) ∧ q ≤ i ∧ k = q) i ?_ ?_
        · exact ⟨i, rfl, rfl, f1, f3, f4, f6, f24, f25, f26, rfl, Nat.le_refl _, rfl⟩
        clear f1 f3 f4 f5 f6 f24 f25 f26
        rintro kk2 ⟨f, n8, H8⟩ ⟨q, rfl, rfl, f1, f3, f4, f6, f24, f25, f26, f9, hq, rfl⟩ ih2
        simp only at f1 f3 f4 f6 f24 f25 f26 f9 ih2 kp7 hn7 u7 r7 hn47 hw7 b7 z7 keep7
        cases kk2 with
        | zero =>
          have hneg : ((0 : Int) ≤ ((0 : Nat) : Int) - 1) = False := by simp
          repeat (first | refine qqm rfl ?_ | ((first | refine qqr ?_ | refine qqt ?_); simp only [SS, qx3, vun, simprocAttr, f9, hneg, ff_24]))
          exact WK.skipNil (.inl ⟨rfl, rfl, rfl, f1, f3, f4, f24, f25, f26⟩)
        | succ q =>
          have hq1 : (((q + 1 : Nat) : Int) - 1) = (q : Int) := by omega
          rw [hq1] at f9
          have hpos : ((0 : Int) ≤ (q : Int)) = True := by simp
          have hql : q < g.rules.length := by omega
          have hqw : IntKind.i64.wrap ((q : Int) - 1) = (q : Int) - 1 := by rw [wrap_in (by omega) (by omega)]
          obtain ⟨pq, e0, e1, hpq⟩ := hrest q (by omega)
          by_cases hll : (g.rules[q]'hql).left = r.left
          · have hll' := eq_true hll
            have heq := equalI_gives (n := n8) (hpq.mono hw1 kp7) (hp1.mono hw1 kp7) (wg.right _ (List.getElem_mem hql)).1
            repeat (first | refine qqm rfl ?_ | ((first | refine qqr ?_ | refine qqt ?_); simp only [SS, qx3, vun, simprocAttr, f1, f6, f9, hpos, b7, gc_2, gc_len, hql, z7, e0, e1, r7, q0, q1, hll', ff_24]))
            refine AtCall.by heq ?_
            rintro v n9 H9 k9 ⟨⟨t, rfl⟩, rfl, rfl⟩
            cases t with
            | true =>
              simp only [SS, qx3, vun, simprocAttr, ff_24]
              repeat (first | refine qqm rfl ?_ | ((first | refine qqr ?_ | refine qqt ?_); simp only [SS, qx3, vun, simprocAttr, ff_24]))
              refine WK.retNil (.inr ⟨rfl, Or.inr rfl, _, rfl, ?_, ?_⟩)
              · exact keep7
              · simp only [packed, qv, Nat.reduceEqDiff, ↓reduceIte, ff_24]
                exact bad _ rfl
            | false =>
              simp only [SS, qx3, vun, simprocAttr, ff_24]
              repeat (first | refine qqm rfl ?_ | ((first | refine qqr ?_ | refine qqt ?_); simp only [SS, qx3, vun, simprocAttr, f9, hqw, ff_24]))
              exact ih2 q (by omega) _ ⟨q, rfl, rfl, f1, f3, f4, f6, f24, f25, f26, rfl, by omega, rfl⟩
          · have hll' := eq_false hll
            repeat (first | refine qqm rfl ?_ | ((first | refine qqr ?_ | refine qqt ?_); simp only [SS, qx3, vun, simprocAttr, f1, f6, f9, hpos, b7, gc_2, gc_len, hql, z7, e0, r7, q0, hll', decide_false, ff_24]))
            exact WK.skipNil (.inl ⟨rfl, rfl, rfl, f1, f3, f4, f24, f25, f26⟩)
      clear f1 f3 f4 f5 f6 f24 f25 f26
      rintro ⟨f, n8, H8⟩ ⟨rfl, rfl, f1, f3, f4, f24, f25, f26⟩
      simp only at f1 f3 f4 f24 f25 f26 kp7 hn7 u7
      repeat (first | refine qqm rfl ?_ | ((first | refine qqr ?_ | refine qqt ?_); simp only [SS, qx3, vun, simprocAttr, f26, hiw, ff_24]))
      refine ih (g.rules.length - (i + 1)) (by omega) _ ?_
      exact ⟨i + 1, m', us', kp7, f1, f3, f4, f24, f25, rfl, hn7, u7, hul7, hlt, hm'v, hcov', rfl⟩
    · by_cases hmv : m = g.vars.length
      · have hmv' : ((m : Int) = (g.vars.length : Int)) = True := by simp [hmv]
        have hct := containsB_gives (p := some ⟨n2, 0, none⟩) (l := us) (b := false) (n := n4) (H := H4) (fun _ => ⟨n2, 0, _, _, _, rfl, hu, fun j y e => by rw [Nat.zero_add, List.getElem?_map, e]; rfl⟩) (by rw [hul]; exact wg.terms)
        rw [hul] at hct
        repeat (first | refine qqm rfl ?_ | ((first | refine qqr ?_ | refine qqt ?_); simp only [SS, qx3, vun, simprocAttr, f1, f3, f4, f24, f25, f26, hlt, hb4, gc_1, gc_len, hmv', decide_true, ff_24]))
        refine AtCall.by hct ?_
        rintro v n5 H5 k5 ⟨⟨t, rfl⟩, rfl, rfl⟩
        simp only [SS, qx3, vun, simprocAttr, ff_24]
        repeat (first | refine qqm rfl ?_ | ((first | refine qqr ?_ | refine qqt ?_); simp only [SS, qx3, vun, simprocAttr, ff_24]))
        first | refine qqf ?_ ?_ | refine qqg ?_ ?_
        · exact keep4
        · simp only [packed, qv, Nat.reduceEqDiff, ↓reduceIte, ff_24]
          exact ⟨_, rfl, fun _ u hu => hcov u (by omega)⟩
      · have hmv' : ((m : Int) = (g.vars.length : Int)) = False := by simp only [eq_iff_iff, iff_false]; omega
        repeat (first | refine qqm rfl ?_ | ((first | refine qqr ?_ | refine qqt ?_); simp only [SS, qx3, vun, simprocAttr, f1, f3, f4, f24, f25, f26, hlt, hb4, gc_1, gc_len, hmv', decide_false, ff_24]))
        first | refine qqf ?_ ?_ | refine qqg ?_ ?_
        · exact keep4
        · simp only [packed, qv, Nat.reduceEqDiff, ↓reduceIte, ff_24]
          exact bad _ rfl
end Go.Proofs.YtihjaobjhmmboaaGreatDoor

namespace Go.Proofs.YtihjaobjhmmboaaGreatDoor
open Go.AM
set_option maxRecDepth 100000
theorem prd1_gives {l : Int} {right : List Int} {wt : Nat} {p : Option Addr} {y x n : Nat} {H : Heap} {hs : List Bool} (hw : WF n H) (hp : RA (Value.int .i64) H p right)
  (hy : H y = .cells [.slice (some ⟨x, 0, none⟩) hs.length hs.length] 34 true) (hx : H x = .cells (hs.map .bool) 4 true) (hl : right.length ≤ maxL) (hr : ∀ s ∈ right, s < hs.length) :
  Gives Tryz.prog 41 [.agg #[.int .i64 l, .slice p right.length right.length, .float .f64 wt], .pointer (some ⟨y, 0, none⟩)] n H fun v _ _ => v = .bool (prdB right hs) := by
 refine Gives.of orders ok41 (Nat.le_of_ble_eq_true rfl) ?_
 have hk := Kp.new n H (.cells [.int .i64 l, .slice p right.length right.length, .float .f64 wt] 44 true)
 have hb := hset_at H n (.cells [.int .i64 l, .slice p right.length right.length, .float .f64 wt] 44 true)
 have low : ∀ {z cs ty own}, H z = .cells cs ty own → z < n := fun {z cs ty own} e => by
  apply Classical.byContradiction
  intro hc
  rw [hw z (by omega)] at e; cases e
 replace hp := hp.mono hw hk
 replace hy := (hk.keep y (low hy)).trans hy
 replace hx := (hk.keep x (low hx)).trans hx
 repeat refine qqn rfl ?_
 (refine qqr ?_; simp only [SS, qx0, vun, simprocAttr, ff_41])
 repeat refine qqn rfl ?_
 generalize hset H n (.cells [.int .i64 l, .slice p right.length right.length, .float .f64 wt] 44 true) = H1 at *
 repeat (first | refine qqm rfl ?_ | ((first | refine qqr ?_ | refine qqt ?_); simp only [SS, qx0, vun, simprocAttr, hb, ff_41]))
 unfold maxL at hl
 refine WK.loop (fun k s => ∃ j, s.n = n + 1 ∧ s.H = H1 ∧ s.f 1 = .pointer (some ⟨y, 0, none⟩) ∧ s.f 7 = .slice p right.length right.length ∧ s.f 8 = .int .i64 (right.length : Nat) ∧ s.f 9 = .int .i64 (j : Nat) ∧ j ≤ right.length ∧ k = right.length - j ∧ prdB (right.take j) hs = true) right.length ?_ ?_
 ·exact ⟨0, rfl, rfl, rfl, rfl, rfl, rfl, Nat.zero_le _, rfl, rfl⟩
 rintro kk ⟨f, n', H'⟩ ⟨j, rfl, rfl, f1, f7, f8, f9, hj, rfl, hn⟩ ih
 simp only at f1 f7 f8 f9 ih hb hp hx hy hk
 by_cases hjr : j < right.length
 ·obtain ⟨z, kz, ds, tz, oz, rfl, hz, e⟩ := hp.at hjr
  have htj : right.take (j + 1) = right.take j ++ [right[j]] := List.take_succ_eq_append_getElem hjr
  have hlt := hr _ (List.getElem_mem hjr)
  repeat (first | refine qqm rfl ?_ | ((first | refine qqr ?_ | refine qqt ?_); simp only [SS, qx0, vun, simprocAttr, f1, f7, f8, f9, hjr, hz, e, ff_41]))
  refine AtCall.by (isVar_gives _ _ _) ?_
  rintro v n2 H2 hk2 ⟨rfl, rfl, rfl⟩
  by_cases h0 : 0 ≤ right[j]
  ·obtain ⟨s, hs'⟩ : ∃ s : Nat, right[j] = s := ⟨right[j].toNat, by omega⟩
   have hsl : s < hs.length := by omega
   have hg : (hs.map Value.bool)[s]? = some (.bool hs[s]) := by rw [List.getElem?_map, List.getElem?_eq_getElem hsl]; rfl
   cases hb2 : hs[s]
   ·rw [hb2] at hg
    simp only [SS, qx0, vun, simprocAttr, f1, f7, f8, f9, hjr, hs', h0, hy, hx, hsl, hg, ff_41]
    repeat (first | refine qqm rfl ?_ | ((first | refine qqr ?_ | refine qqt ?_); simp only [SS, qx0, vun, simprocAttr, f1, f7, f8, f9, ff_41]))
    first | refine qqf ?_ ?_ | refine qqg ?_ ?_
    ·exact hk.keep
    ·simp only [packed, qv, Nat.reduceEqDiff, ↓reduceIte, ff_41]
     have : prdB right hs = false := by
      unfold prdB
      rw [List.all_eq_false]
      exact ⟨right[j], List.getElem_mem hjr, by rw [hs']; simp [hsl, hb2]⟩
     rw [this]
   ·rw [hb2] at hg
    simp only [SS, qx0, vun, simprocAttr, f1, f7, f8, f9, hjr, hs', h0, hy, hx, hsl, hg, ff_41]
    repeat (first | refine qqm rfl ?_ | ((first | refine qqr ?_ | refine qqt ?_); simp only [SS, qx0, vun, simprocAttr, f1, f7, f8, f9, ff_41]))
    refine ih (right.length - (j + 1)) (by omega) _ ⟨j + 1, rfl, rfl, f1, f7, f8, ?_, hjr, rfl, ?_⟩
    ·simp only [packed, qv, Nat.reduceEqDiff, ↓reduceIte, f9, ff_41]
     rw [wrap_in (by omega) (by omega)]; rfl
    ·rw [htj]
     unfold prdB at hn ⊢
     rw [List.all_append, hn, hs']
     simp [hsl, hb2]
  ·simp only [SS, qx0, vun, simprocAttr, f1, f7, f8, f9, hjr, h0, ff_41]
   repeat (first | refine qqm rfl ?_ | ((first | refine qqr ?_ | refine qqt ?_); simp only [SS, qx0, vun, simprocAttr, f1, f7, f8, f9, ff_41]))
   refine ih (right.length - (j + 1)) (by omega) _ ⟨j + 1, rfl, rfl, f1, f7, f8, ?_, hjr, rfl, ?_⟩
   ·simp only [packed, qv, Nat.reduceEqDiff, ↓reduceIte, f9, ff_41]
    rw [wrap_in (by omega) (by omega)]; rfl
   ·rw [htj]
    unfold prdB at hn ⊢
    rw [List.all_append, hn]
    simp [show right[j] < 0 by omega]
 ·repeat (first | refine qqm rfl ?_ | ((first | refine qqr ?_ | refine qqt ?_); simp only [SS, qx0, vun, simprocAttr, f1, f7, f8, f9, hjr, ff_41]))
  first | refine qqf ?_ ?_ | refine qqg ?_ ?_
  ·exact hk.keep
  ·simp only [packed, qv, Nat.reduceEqDiff, ↓reduceIte, ff_41]
   rw [List.take_of_length_le (by omega)] at hn
   rw [hn]
set_option maxHeartbeats 4000000 in
theorem productive_gives {v : Value} {g : Gram} {n : Nat} {H : Heap} (hw : WF n H) (hg : RG H v g) (wg : WG g) (ok : RightOK g) :
  Gives Tryz.prog 15 [v] n H fun v n' H' => ∃ (hs : List Bool) (x : Nat), n ≤ x ∧ x < n' ∧ v = .slice (some ⟨x, 0, none⟩) g.vars.length g.vars.length ∧ hs.length = g.vars.length ∧ H' x = .cells (hs.map .bool) 4 true ∧ ∀ v, hold hs v ↔ Prd g v := by
 have hg0 := hg
 obtain ⟨pt, pv, pr, rfl, ht, hv, hr⟩ := hg
 refine Gives.of orders ok15 (Nat.le_of_ble_eq_true rfl) ?_
 have hk := Kp.new n H (.cells (gcells pt pv pr g) 25 true)
 have hb := hset_at H n (.cells (gcells pt pv pr g) 25 true)
 have hi := ok.inG
 have hvl : (g.vars.length : Int) ≤ bigN := by have := ok.vars; unfold bigN; omega
 repeat refine qqn rfl ?_
 (refine qqr ?_; simp only [SS, qx22, simprocAttr, box_cells, box_one, ff_15])
 generalize hset H n (.cells (gcells pt pv pr g) 25 true) = H1 at *
 repeat refine qqn rfl ?_
 (refine qqr ?_; simp only [SS, qx22, simprocAttr, hb, gc_0, gc_1, gc_2, hvl, ff_15])
 repeat refine qqn rfl ?_
 have k1 := (Kp.new (n + 1) H1 (.cells (rep g.vars.length [.bool false]) 4 true)).trans (Kp.new (n + 1 + 1) _ (.cells [.slice (some ⟨n + 1, 0, none⟩) g.vars.length g.vars.length] 34 true))
 have b0 := (k1.keep n (by omega)).trans hb
 have b1 : (hset (hset H1 (n + 1) (.cells (rep g.vars.length [.bool false]) 4 true)) (n + 1 + 1) (.cells [.slice (some ⟨n + 1, 0, none⟩) g.vars.length g.vars.length] 34 true)) (n + 1) = _ := (hset_ne _ _ _ (by omega)).trans (hset_at _ _ _)
 have b2 : (hset (hset H1 (n + 1) (.cells (rep g.vars.length [.bool false]) 4 true)) (n + 1 + 1) (.cells [.slice (some ⟨n + 1, 0, none⟩) g.vars.length g.vars.length] 34 true)) (n + 1 + 1) = _ := hset_at _ _ _
 generalize hset (hset H1 (n + 1) (.cells (rep g.vars.length [.bool false]) 4 true)) (n + 1 + 1) (.cells [.slice (some ⟨n + 1, 0, none⟩) g.vars.length g.vars.length] 34 true) = H2 at *
 rw [rep_map] at b1
 (refine qqr ?_; simp only [SS, qx22, simprocAttr, b0, b1, b2, gc_len, gc_all, ff_15])
 have kk := hk.trans k1
 have hf := fix_gives (F := 41) (captured := [.pointer (some ⟨n + 1 + 1, 0, none⟩)]) (fun r => prdB r.right) hw hg0 wg kk (x := n + 1) (by omega) (hs := List.replicate g.vars.length false) (by rw [List.length_replicate]; exact wg.vars) b1 (by omega)
  (fun r hr => ⟨hi.left0 r hr, by rw [List.length_replicate]; exact hi.left1 r hr⟩) (fun n3 H3 hs1 hw3 kx hl hx r hr p hp => by
   have hy := (kx.keep (n + 1 + 1) (by omega) (by omega)).trans b2
   rw [List.length_replicate] at hl
   rw [← hl] at hy
   exact prd1_gives hw3 hp hy hx (wg.right r hr).1 (fun s hs => by rw [hl]; exact hi.right r hr s hs))
 rw [List.length_replicate] at hf
 refine AtCall.byX hf ?_
 rintro v n3 H3 kx ⟨rfl, hs, hx, hl, hd, hc⟩
 simp only [SS, qx22, simprocAttr, ff_15]
 repeat (first | refine qqm rfl ?_ | ((first | refine qqr ?_ | refine qqt ?_); simp only [SS, qx22, simprocAttr, ff_15]))
 first | refine qqf ?_ ?_ | refine qqg ?_ ?_
 ·exact fun y hy => (kx.keep y (by omega) (by omega)).trans (kk.keep y hy)
 ·simp only [packed, qv, Nat.reduceEqDiff, ↓reduceIte, ff_15]
  have := kx.le
  refine ⟨hs, n + 1, by omega, by show n + 1 < n3; omega, rfl, by rw [hl], hx, fun v => ⟨der_prd hi hd v, closed_prd hi hc v⟩⟩
end Go.Proofs.YtihjaobjhmmboaaGreatDoor

namespace Go.Proofs.YtihjaobjhmmboaaGreatDoor
open Go.AM
set_option maxRecDepth 100000
def natC (u : Nat) : Value := .int .i64 (u : Nat)
def cF (cost : List Nat) (v : Nat) : Nat := cost.getD v 0
def dF (done : List Bool) (v : Nat) : Bool := done.getD v false
def priceV (cost : List Nat) (done : List Bool) (right : List Int) : Value := match priceA (cF cost) (dF done) 0 right with
 | none => .tuple #[.int .i64 0, .bool false]
 | some m => .tuple #[.int .i64 (m : Nat), .bool (decide (m < farN))]
theorem price_gives {l : Int} {right : List Int} {wt : Nat} {p : Option Addr} {xc xd n : Nat} {H : Heap} {cost : List Nat} {done : List Bool} (hw : WF n H) (hp : RA (Value.int .i64) H p right)
    (hc : H xc = .cells (cost.map natC) 3 true) (hd : H xd = .cells (done.map .bool) 4 true) (hl : right.length ≤ 1000) (hr : ∀ s ∈ right, s < cost.length) (hcd : done.length = cost.length) (hcf : ∀ k ∈ cost, k ≤ farN) :
    Gives Tryz.prog 38 [.agg #[.int .i64 l, .slice p right.length right.length, .float .f64 wt], .slice (some ⟨xc, 0, none⟩) cost.length cost.length, .slice (some ⟨xd, 0, none⟩) cost.length cost.length] n H fun v _ _ => v = priceV cost done right := by
  refine Gives.of orders ok38 (Nat.le_of_ble_eq_true rfl) ?_
  have hk := Kp.new n H (.cells [.int .i64 l, .slice p right.length right.length, .float .f64 wt] 44 true)
  have hb := hset_at H n (.cells [.int .i64 l, .slice p right.length right.length, .float .f64 wt] 44 true)
  replace hp := hp.mono hw hk
  replace hc := (hk.keep xc (live_lt hw (live_of hc))).trans hc
  replace hd := (hk.keep xd (live_lt hw (live_of hd))).trans hd
  repeat refine qqn rfl ?_
  (refine qqr ?_; simp only [SS, qx15, vun, simprocAttr, ff_38])
  repeat refine qqn rfl ?_
  generalize hset H n (.cells [.int .i64 l, .slice p right.length right.length, .float .f64 wt] 44 true) = H1 at *
  repeat (first | refine qqm rfl ?_ | ((first | refine qqr ?_ | refine qqt ?_); simp only [SS, qx15, vun, simprocAttr, hb, ff_38]))
  refine WK.loop (fun k s => ∃ j m, s.n = n + 1 ∧ s.H = H1 ∧ s.f 1 = .slice (some ⟨xc, 0, none⟩) cost.length cost.length ∧ s.f 2 = .slice (some ⟨xd, 0, none⟩) cost.length cost.length ∧ s.f 8 = .int .i64 (m : Nat) ∧ s.f 12 = .slice p right.length right.length ∧ s.f 13 = .int .i64 right.length ∧ s.f 14 = .int .i64 (j : Nat) ∧ j ≤ right.length ∧ m ≤ farN + j ∧
      priceA (cF cost) (dF done) 0 right = priceA (cF cost) (dF done) m (right.drop j) ∧ k = right.length - j) right.length ?_ ?_
  · exact ⟨0, 0, rfl, rfl, rfl, rfl, rfl, rfl, rfl, rfl, Nat.zero_le _, by omega, rfl, rfl⟩
  rintro kk ⟨f, n', H'⟩ ⟨j, m, rfl, rfl, f1, f2, f8, f12, f13, f14, hj, hm, hpr, rfl⟩ ih
  simp only at f1 f2 f8 f12 f13 f14 ih hp hc hd hk
  have hfar : farN = 1073741824 := rfl
  by_cases hjr : j < right.length
  · obtain ⟨z, kz, ds, tz, oz, rfl, hz, e⟩ := hp.at hjr
    have hlt := hr _ (List.getElem_mem hjr)
    have hjw : IntKind.i64.wrap ((j : Int) + 1) = ((j + 1 : Nat) : Int) := by rw [wrap_in (by omega) (by omega)]; rfl
    have hdrop : right.drop j = right[j] :: right.drop (j + 1) := List.drop_eq_getElem_cons hjr
    rw [hdrop] at hpr
    simp only [priceA] at hpr
    repeat (first | refine qqm rfl ?_ | ((first | refine qqr ?_ | refine qqt ?_); simp only [SS, qx15, vun, simprocAttr, f12, f13, f14, hjr, hz, e, ff_38]))
    refine AtCall.by (isVar_gives _ _ _) ?_
    rintro v n2 H2 hk2 ⟨rfl, rfl, rfl⟩
    by_cases h0 : 0 ≤ right[j]
    · obtain ⟨s, hs⟩ : ∃ s : Nat, right[j] = s := ⟨right[j].toNat, by omega⟩
      have hsl : s < cost.length := by omega
      have hsd : s < done.length := by omega
      have hneg : ¬ ((s : Int) < 0) := by omega
      have hgd : (done.map Value.bool)[s]? = some (.bool done[s]) := by rw [List.getElem?_map, List.getElem?_eq_getElem hsd]; rfl
      have hgc : (cost.map natC)[s]? = some (.int .i64 (cost[s] : Nat)) := by rw [List.getElem?_map, List.getElem?_eq_getElem hsl]; rfl
      have hdf : dF done s = done[s] := by simp [dF, hsd]
      have hcf' : cF cost s = cost[s] := by simp [cF, hsl]
      rw [hs, if_neg hneg, Int.toNat_natCast, hdf, hcf'] at hpr
      have hci := hcf _ (List.getElem_mem hsl)
      cases hbd : done[s]
      · rw [hbd] at hgd hpr
        simp only [Bool.false_eq_true, if_false] at hpr
        simp only [SS, qx15, vun, simprocAttr, h0, ff_38]
        repeat (first | refine qqm rfl ?_ | ((first | refine qqr ?_ | refine qqt ?_); simp only [SS, qx15, vun, simprocAttr, f2, hs, hsl, hd, hgd, ff_38]))
        first | refine qqf ?_ ?_ | refine qqg ?_ ?_
        · exact hk.keep
        · simp only [packed, qv, Nat.reduceEqDiff, ↓reduceIte, ff_38]
          unfold priceV
          rw [hpr]
      · rw [hbd] at hgd hpr
        simp only [if_true] at hpr
        have hadd : IntKind.i64.wrap ((m : Int) + (cost[s] : Nat)) = ((m + cost[s] : Nat) : Int) := by rw [wrap_in (by omega) (by omega)]; omega
        simp only [SS, qx15, vun, simprocAttr, h0, ff_38]
        repeat (first | refine qqm rfl ?_ | ((first | refine qqr ?_ | refine qqt ?_); simp only [SS, qx15, vun, simprocAttr, f1, f2, f8, f14, hs, hsl, hd, hgd, hc, hgc, hadd, aop_min, tmm, Bool.false_eq_true, ff_38]))
        refine ih (right.length - (j + 1)) (by omega) _ ⟨j + 1, min (m + cost[s]) farN, rfl, rfl, f1, f2, ?_, f12, f13, ?_, hjr, by omega, hpr, rfl⟩
        · simp only [packed, qv, Nat.reduceEqDiff, ↓reduceIte, ff_38]
          congr 1
          rw [hfar]
          split <;> omega
        · simp only [packed, qv, Nat.reduceEqDiff, ↓reduceIte, f14, hjw, ff_38]
    · have hneg : right[j] < 0 := by omega
      rw [if_pos hneg] at hpr
      have hadd : IntKind.i64.wrap ((m : Int) + 1) = ((m + 1 : Nat) : Int) := by rw [wrap_in (by omega) (by omega)]; omega
      simp only [SS, qx15, vun, simprocAttr, h0, ff_38]
      repeat (first | refine qqm rfl ?_ | ((first | refine qqr ?_ | refine qqt ?_); simp only [SS, qx15, vun, simprocAttr, f8, f14, hadd, ff_38]))
      refine ih (right.length - (j + 1)) (by omega) _ ⟨j + 1, m + 1, rfl, rfl, f1, f2, rfl, f12, f13, ?_, hjr, by omega, hpr, rfl⟩
      simp only [packed, qv, Nat.reduceEqDiff, ↓reduceIte, f14, hjw, ff_38]
  · have hje : j = right.length := by omega
    subst hje
    rw [List.drop_length] at hpr
    simp only [priceA] at hpr
    repeat (first | refine qqm rfl ?_ | ((first | refine qqr ?_ | refine qqt ?_); simp only [SS, qx15, vun, simprocAttr, f8, f13, f14, hjr, ff_38]))
    first | refine qqf ?_ ?_ | refine qqg ?_ ?_
    · exact hk.keep
    · simp only [packed, qv, Nat.reduceEqDiff, ↓reduceIte, f8, ff_38]
      unfold priceV
      rw [hpr]
      have : decide ((m : Int) < 1073741824) = decide (m < farN) := by rw [decide_eq_decide, hfar]; omega
      simp only [this]
end Go.Proofs.YtihjaobjhmmboaaGreatDoor
