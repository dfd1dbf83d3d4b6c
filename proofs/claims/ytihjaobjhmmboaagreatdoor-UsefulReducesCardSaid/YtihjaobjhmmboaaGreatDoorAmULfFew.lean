/- A part of a proof. Its conditions: none. -/
import Derived.Test.YtihjaobjhmmboaaGreatDoorAmUTTrue
import Derived.Test.YtihjaobjhmmboaaGreatDoorAmUFacts
import Derived.Test.YtihjaobjhmmboaaGreatDoorAmC
import Derived.Test.YtihjaobjhmmboaaGreatDoorAmD
set_option linter.all false
namespace Go.Proofs.YtihjaobjhmmboaaGreatDoor
open Go.AM
set_option maxRecDepth 100000
def MI (g : Gram) (i m : Nat) : Prop := (i = 0 → m = 0) ∧ ∀ (q : Nat) (hq : q < g.rules.length), i = q + 1 → (m : Int) = g.rules[q].left + 1
def UI (g : Gram) (i : Nat) (us : List Bool) : Prop := ∀ t : Nat, (∃ (q : Nat) (hq : q < g.rules.length), q < i ∧ -(t : Int) - 1 ∈ g.rules[q].right) → t < us.length → us[t]? = some true
def IU (g : Gram) (i : Nat) (r : GRule) (j : Nat) (us : List Bool) : Prop := ∀ t : Nat, ((∃ (q : Nat) (hq : q < g.rules.length), q < i ∧ -(t : Int) - 1 ∈ g.rules[q].right) ∨ ∃ p, p < j ∧ r.right[p]? = some (-(t : Int) - 1)) → t < us.length → us[t]? = some true
theorem IU.zero {g : Gram} {i : Nat} {r : GRule} {us : List Bool} (h : UI g i us) : IU g i r 0 us := fun t ht hl => by
 rcases ht with ht | ⟨p, hp, _⟩
 ·exact h t ht hl
 ·exact absurd hp (Nat.not_lt_zero _)
theorem IU.pos {g : Gram} {i j : Nat} {r : GRule} {us : List Bool} {s : Int} (h : IU g i r j us) (hs : r.right[j]? = some s) (h0 : 0 ≤ s) : IU g i r (j + 1) us := fun t ht hl => by
 rcases ht with ht | ⟨p, hp, e⟩
 ·exact h t (.inl ht) hl
 ·by_cases e2 : p = j
  ·subst e2; rw [hs] at e; have := Option.some.inj e; omega
  ·exact h t (.inr ⟨p, by omega, e⟩) hl
theorem IU.neg {g : Gram} {i j q : Nat} {r : GRule} {us : List Bool} {s : Int} (h : IU g i r j us) (hs : r.right[j]? = some s) (hq : -s - 1 = (q : Int)) (hl : q < us.length) : IU g i r (j + 1) (us.set q true) := fun t ht hl => by
 rw [List.length_set] at hl
 rw [List.getElem?_set]
 by_cases e3 : q = t
 ·rw [if_pos e3, if_pos (by omega)]
 ·rw [if_neg e3]
  rcases ht with ht | ⟨p, hp, e⟩
  ·exact h t (.inl ht) hl
  ·by_cases e2 : p = j
   ·subst e2; rw [hs] at e; have := Option.some.inj e; omega
   ·exact h t (.inr ⟨p, by omega, e⟩) hl
theorem IU.over {g : Gram} {i j : Nat} {r : GRule} {us : List Bool} (h : IU g i r j us) (hi : i < g.rules.length) (hr : g.rules[i] = r) (hj : r.right.length ≤ j) : UI g (i + 1) us := fun t ⟨q, hq, hqi, hm⟩ hl => by
 by_cases e : q = i
 ·subst e
  rw [hr] at hm
  obtain ⟨p, hp, e⟩ := List.getElem_of_mem hm
  exact h t (.inr ⟨p, by omega, by rw [List.getElem?_eq_getElem hp, e]⟩) hl
 ·exact h t (.inl ⟨q, hq, by omega, hm⟩) hl
theorem up_at {g : Gram} (G : GoodG NB QB LTB toldB g) {i j : Nat} (hi : i < g.rules.length) (hj : j < g.rules.length) (h : i ≤ j) : g.rules[i].left ≤ g.rules[j].left := by
 by_cases e : i = j
 ·subst e; exact Int.le_refl _
 ·exact List.pairwise_iff_getElem.1 G.up i j hi hj (by omega)
theorem left_mi {g : Gram} (G : GoodG NB QB LTB toldB g) {i m : Nat} (h : MI g i m) (hi : i < g.rules.length) : g.rules[i].left = m ∨ g.rules[i].left = (m : Int) - 1 := by
 have h0 := G.inG.left0 _ (List.getElem_mem hi)
 have h1 := G.inG.left1 _ (List.getElem_mem hi)
 by_cases e : g.rules[i].left ≤ m
 ·by_cases hi0 : i = 0
  ·have := h.1 hi0; omega
  ·have := h.2 (i - 1) (by omega) (by omega)
   have := up_at G (i := i - 1) (j := i) (by omega) hi (by omega)
   omega
 ·exfalso
  obtain ⟨r, hr, hl⟩ := G.has m (by omega)
  obtain ⟨j, hj, rfl⟩ := List.getElem_of_mem hr
  by_cases hij : i ≤ j
  ·have := up_at G hi hj hij; omega
  ·have := h.2 (i - 1) (by omega) (by omega)
   have := up_at G (i := j) (j := i - 1) hj (by omega) (by omega)
   omega
theorem mi_end {g : Gram} (G : GoodG NB QB LTB toldB g) {i m : Nat} (h : MI g i m) (hi : i = g.rules.length) (hm : m ≤ g.vars.length) : m = g.vars.length := by
 obtain ⟨r, hr, hl⟩ := G.has (g.vars.length - 1) (by have := G.vars1; omega)
 obtain ⟨j, hj, rfl⟩ := List.getElem_of_mem hr
 have h1 := h.2 (i - 1) (by omega) (by omega)
 have h2 := up_at G (i := j) (j := i - 1) hj (by omega) (by omega)
 have := G.vars1
 omega
theorem ui_end {g : Gram} (G : GoodG NB QB LTB toldB g) {i : Nat} {us : List Bool} (h : UI g i us) (hi : g.rules.length ≤ i) (hl : us.length = g.terms.length) : ∀ y ∈ us, (false == y) = false := fun y hy => by
 obtain ⟨t, ht, rfl⟩ := List.getElem_of_mem hy
 obtain ⟨r, hr, hs⟩ := G.used t (by omega)
 obtain ⟨q, hq, rfl⟩ := List.getElem_of_mem hr
 have := h t ⟨q, hq, by omega, hs⟩ ht
 rw [List.getElem?_eq_getElem ht] at this
 rw [Option.some.inj this]; rfl
theorem equalI_ne {p q : Option Addr} {a b : List Int} {n : Nat} {H : Heap} (ha : RA (Value.int .i64) H p a) (hb : RA (Value.int .i64) H q b) (hl : a.length ≤ maxL) (hne : a ≠ b) :
  Gives Tryz.prog 52 [.slice p a.length a.length, .slice q b.length b.length] n H fun v n' H' => v = .bool false ∧ n' = n ∧ H' = H := by
 refine Gives.of orders ok52 (Nat.le_of_ble_eq_true rfl) ?_
 by_cases hab : a.length = b.length
 ·have hab' : ((a.length : Int) = (b.length : Int)) = True := by simp only [eq_iff_iff, iff_true]; omega
  repeat (first | refine qqm rfl ?_ | ((first | refine qqr ?_ | refine qqt ?_); simp only [SS, qx9, simprocAttr, hab, hab', decide_true, ff_52]))
  refine WK.loop (fun k s' => ∃ i, s'.n = n ∧ s'.H = H ∧ s'.f 0 = .slice p a.length a.length ∧ s'.f 1 = .slice q b.length b.length ∧ s'.f 12 = .int .i64 (b.length : Nat) ∧ s'.f 13 = .int .i64 (i : Nat) ∧ i ≤ a.length ∧ a.take i = b.take i ∧ k = a.length - i) a.length ?_ ?_
  ·exact ⟨0, rfl, rfl, by rw [hab]; rfl, rfl, rfl, rfl, Nat.zero_le _, rfl, rfl⟩
  rintro k ⟨f, n', H'⟩ ⟨i, rfl, rfl, f0, f1, f12, f13, hi, htk, rfl⟩ ih
  simp only at f0 f1 f12 f13 ih ha hb
  by_cases hi : i < a.length
  ·have hib : i < b.length := by omega
   obtain ⟨x, k, cs, ty, own, rfl, hx, e⟩ := ha.at hi
   obtain ⟨y, k2, cs2, ty2, own2, rfl, hy, e2⟩ := hb.at hib
   have hiw : IntKind.i64.wrap ((i : Int) + 1) = ((i + 1 : Nat) : Int) := by unfold maxL at hl; rw [wrap_in (by omega) (by omega)]; rfl
   by_cases he : a[i] = b[i]
   ·repeat (first | refine qqm rfl ?_ | ((first | refine qqr ?_ | refine qqt ?_); simp only [SS, qx9, simprocAttr, f0, f1, f12, f13, hi, hib, hx, e, hy, e2, he, hiw, ff_52]))
    exact ih (a.length - (i + 1)) (by omega) _ ⟨i + 1, rfl, rfl, f0, f1, f12, rfl, hi, by rw [List.take_succ_eq_append_getElem hi, List.take_succ_eq_append_getElem hib, htk, he], rfl⟩
   ·repeat (first | refine qqm rfl ?_ | ((first | refine qqr ?_ | refine qqt ?_); simp only [SS, qx9, simprocAttr, f0, f1, f12, f13, hi, hib, hx, e, hy, e2, he, ff_52]))
    first | refine qqf ?_ ?_ | refine qqg ?_ ?_
    ·exact fun _ _ => rfl
    ·simp only [packed, qv, Nat.reduceEqDiff, ↓reduceIte, ff_52]
     all_goals simp
  ·exact absurd (by rwa [List.take_of_length_le (by omega), List.take_of_length_le (by omega)] at htk) hne
 ·have hab' : ((a.length : Int) = (b.length : Int)) = False := by simp only [eq_iff_iff, iff_false]; omega
  repeat (first | refine qqm rfl ?_ | ((first | refine qqr ?_ | refine qqt ?_); simp only [SS, qx9, simprocAttr, hab, hab', decide_false, ff_52]))
  first | refine qqf ?_ ?_ | refine qqg ?_ ?_
  ·exact fun _ _ => rfl
  ·simp only [packed, qv, Nat.reduceEqDiff, ↓reduceIte, ff_52]
   all_goals simp
set_option maxHeartbeats 16000000 in
theorem gRight_true {pt pv pr : Option Addr} {g : Gram} {n : Nat} {H : Heap} (hG : GH n H) (ht : RA Value.string H pt g.terms) (hv : RA Value.string H pv g.vars) (hr : RR H pr g.rules) (hvo : g.vars ≠ [] → Fgn H pv) (wg : WG g) (G : GoodG NB QB LTB toldB g) :
    Gives Tryz.prog 24 [.agg (gcells pt pv pr g).toArray] n H fun v _ _ => v = .bool true := by
  have hw := hG.1
  have ro : RulesOK g := ⟨G.terms, G.rules, fun r hr => ⟨G.inG.left0 r hr, G.inG.left1 r hr⟩, G.len, fun r hr s hs => ⟨G.inG.right r hr s hs, G.inG.rightT r hr s hs⟩, G.told⟩
  refine Gives.of orders ok24 (Nat.le_of_ble_eq_true rfl) ?_
  have k1 := Kp.new n H (.cells (gcells pt pv pr g) 25 true)
  have hb := hset_at H n (.cells (gcells pt pv pr g) 25 true)
  have ht1 := ht.mono hw k1
  have hv1 := hv.mono hw k1
  have hr1 := hr.mono hw k1
  have hw1 := k1.wf hw
  have hwt := wg.terms
  have hwv := wg.vars
  have hrl := ro.rules
  unfold maxL at hwt hwv
  have hvo1 : g.vars ≠ [] → Fgn (hset H n (.cells (gcells pt pv pr g) 25 true)) pv := fun h0 x k' cs ty own e1 e2 => by
    have hx : x < n := Classical.byContradiction fun hc => by
      obtain ⟨x', k2, cs', ty', own', f1, f2, _⟩ := hv h0
      rw [f1] at e1
      cases e1
      rw [hw x (by omega)] at f2; cases f2
    exact hvo h0 x k' cs ty own e1 (by rw [← k1.keep x hx]; exact e2)
  repeat refine qqn rfl ?_
  (refine qqr ?_; simp only [SS, qx1, vun, simprocAttr, box_cells, box_one, ff_24])
  have hG1 := hG.keep k1
  generalize hset H n (.cells (gcells pt pv pr g) 25 true) = H1 at *
  repeat (first | refine qqm rfl ?_ | ((first | refine qqr ?_ | refine qqt ?_); simp only [SS, qx1, vun, simprocAttr, hb, gc_all, gc_len, ff_24]))
  refine AtCall.by (gnames_true hw1 ht1 hv1 hvo1 wg G) ?_
  rintro v n2 H2 k2 rfl
  have hw2 := k2.wf hw1
  have hle2 := k2.le
  · have h256 : ¬ (256 : Int) < (g.rules.length : Int) := by omega
    have htl : (g.terms.length : Int) ≤ bigN := by have := ro.terms; unfold bigN; omega
    have hb2 := (k2.keep n (by omega)).trans hb
    simp only [SS, qx1, vun, simprocAttr, hb2, gc_2, gc_len, h256, ff_24]
    repeat refine qqn rfl ?_
    refine qqm rfl ?_
    repeat refine qqn rfl ?_
    (refine qqr ?_; simp only [SS, qx1, vun, simprocAttr, ff_24])
    repeat refine qqn rfl ?_
    (refine qqr ?_; simp only [SS, qx1, vun, simprocAttr, hb2, gc_0, gc_len, htl, ff_24])
    rw [rep_map]
    have kY := Kp.new n2 H2 (.cells ((List.replicate g.terms.length false).map .bool) 4 true)
    have bY := hset_at H2 n2 (.cells ((List.replicate g.terms.length false).map .bool) 4 true)
    have k3 := k1.trans (k2.trans kY)
    have hbY := (kY.keep n (by omega)).trans hb2
    generalize hset H2 n2 (.cells ((List.replicate g.terms.length false).map .bool) 4 true) = HY at *
    have hGY := hG.keep k3
    repeat (first | refine qqm rfl ?_ | ((first | refine qqr ?_ | refine qqt ?_); simp only [SS, qx1, vun, simprocAttr, hbY, gc_2, gc_len, ff_24]))
    refine WK.loop (fun k s => ∃ (i m : Nat) (us : List Bool), Kp (n + 1) H1 s.n s.H ∧ s.f 1 = .pointer (some ⟨n, 0, none⟩) ∧ s.f 3 = .int .i64 (m : Nat) ∧ s.f 4 = .slice (some ⟨n2, 0, none⟩) g.terms.length g.terms.length ∧ s.f 24 = .slice pr g.rules.length g.rules.length ∧ s.f 25 = .int .i64 (g.rules.length : Nat) ∧ s.f 26 = .int .i64 (i : Nat) ∧
      n2 < s.n ∧ s.H n2 = .cells (us.map .bool) 4 true ∧ us.length = g.terms.length ∧ i ≤ g.rules.length ∧ m ≤ g.vars.length ∧ MI g i m ∧ UI g i us ∧ k = g.rules.length - i) g.rules.length ?_ ?_
    · exact ⟨0, 0, _, k2.trans kY, rfl, rfl, rfl, rfl, rfl, rfl, by show n2 < n2 + 1; omega, bY, by simp, Nat.zero_le _, Nat.zero_le _, ⟨fun _ => rfl, fun q _ h => by omega⟩, fun t ⟨q, _, h, _⟩ => absurd h (Nat.not_lt_zero _), rfl⟩
    clear bY kY hbY k3 hGY
    rintro kk ⟨f, n4, H4⟩ ⟨i, m, us, kp, f1, f3, f4, f24, f25, f26, hn4, hu, hul, hi, hm, hMI, hUI, rfl⟩ ih
    simp only at f1 f3 f4 f24 f25 f26 kp hn4 hu ih
    have hw4 := kp.wf hw1
    have hG4 := hG1.keep kp
    have hb4 := (kp.keep n (by omega)).trans hb
    have hr4 := hr1.mono hw1 kp
    have keep4 : ∀ x, x < n → H4 x = H x := fun x hx => (kp.keep x (by omega)).trans (k1.keep x hx)
    by_cases hlt : i < g.rules.length
    · obtain ⟨z, kz, ds, tz, oz, p, rfl, hz0, d0, d1, d2, hp1⟩ := hr1.at hlt
      have hzl : z < n + 1 := Classical.byContradiction fun hc => by rw [hw1 z (by omega)] at hz0; cases hz0
      have hz := (kp.keep z hzl).trans hz0
      have hp := hp1.mono hw1 kp
      have d3 := take3 d0 d1 d2
      have d4 : kz + i * 3 + 3 ≤ ds.length := by have := (List.getElem?_eq_some_iff.1 d2).1; omega
      have hmem := List.getElem_mem hlt
      obtain ⟨hl0, hl1⟩ := ro.left _ hmem
      have hlen := ro.len _ hmem
      have hsym := ro.sym _ hmem
      have htold := ro.told _ hmem
      have hwgt := wg.weight _ hmem
      have hri := (wg.right _ hmem).2
      have hrest : ∀ (j : Nat) (hj : j < i), ∃ (q : Option Addr), ds[kz + j * 3]? = some (.int .i64 (g.rules[j]'(by omega)).left) ∧ ds[kz + j * 3 + 1]? = some (.slice q (g.rules[j]'(by omega)).right.length (g.rules[j]'(by omega)).right.length) ∧ RA (Value.int .i64) H1 q (g.rules[j]'(by omega)).right := fun j hj => by
        obtain ⟨z', kz', ds', tz', oz', q, e, hz', e0, e1, _, hq⟩ := hr1.at (i := j) (by omega)
        cases e
        rw [hz0] at hz'
        cases hz'
        exact ⟨q, e0, e1, hq⟩
      have hiw : IntKind.i64.wrap ((i : Int) + 1) = ((i + 1 : Nat) : Int) := by rw [wrap_in (by omega) (by omega)]; rfl
      have hlm := left_mi G hMI hlt
      have hunl : ∀ (q : Nat) (hq : q < g.rules.length), q < i → g.rules[q].left = g.rules[i].left → g.rules[q].right ≠ g.rules[i].right := fun q hq h => List.pairwise_iff_getElem.1 G.unlike q i hq hlt h
      have hmem' := hmem
      generalize hrr : g.rules[i] = r at *
      have kR := Kp.new n4 H4 (.cells [.int .i64 r.left, .slice p r.right.length r.right.length, .float .f64 r.weight] 44 true)
      have bR := hset_at H4 n4 (.cells [.int .i64 r.left, .slice p r.right.length r.right.length, .float .f64 r.weight] 44 true)
      have hR4 := kR.le
      have bR' := (kR.keep n2 hn4).trans hu
      have bb' := (kR.keep n (by have := kp.le; omega)).trans hb4
      have hz' := (kR.keep z (by have := kp.le; omega)).trans hz
      have hG5 := hG4.keep kR
      have hp5 := hp.mono hw4 kR
      have kp5 := kp.trans kR
      have hn2n4 := kp.le
      generalize hR : hset H4 n4 (.cells [.int .i64 r.left, .slice p r.right.length r.right.length, .float .f64 r.weight] 44 true) = H5 at *
      have hw5 := hG5.1
      repeat refine qqn rfl ?_
      (refine qqr ?_; simp only [SS, qx1, vun, simprocAttr, f1, f3, f4, f24, f25, f26, hlt, ff_24])
      repeat refine qqn rfl ?_
      refine qqm rfl ?_
      repeat refine qqn rfl ?_
      (refine qqr ?_; simp only [SS, qx1, vun, simprocAttr, f1, f3, f4, f24, f25, f26, hlt, hz, d3, d4, hR, ff_24])
      apply WK.skipSeq
      apply WK.seq
      have hw1' : IntKind.i64.wrap ((m : Int) - 1) = (m : Int) - 1 := by rw [wrap_in (by omega) (by omega)]
      have hl0' : ¬ r.left < 0 := by omega
      have hl1' : ¬ (g.vars.length : Int) ≤ r.left := by omega
      have hlen' : ¬ (24 : Int) < (r.right.length : Int) := by omega
      have q0 : ([Value.int .i64 r.left, Value.slice p r.right.length r.right.length, Value.float .f64 r.weight] : List Value)[0]? = some (.int .i64 r.left) := rfl
      have q1 : ([Value.int .i64 r.left, Value.slice p r.right.length r.right.length, Value.float .f64 r.weight] : List Value)[1]? = some (.slice p r.right.length r.right.length) := rfl
      have q2 : ([Value.int .i64 r.left, Value.slice p r.right.length r.right.length, Value.float .f64 r.weight] : List Value)[2]? = some (.float .f64 r.weight) := rfl
      have keep5 : ∀ x, x < n → H5 x = H x := fun x hx => (kR.keep x (by omega)).trans (keep4 x hx)
      obtain ⟨Lft, hL⟩ : ∃ Lft : Prop, Lft = (r.left = m ∨ r.left = (m : Int) - 1) := ⟨_, rfl⟩
      refine WK.cutRet (fun s => Kp (n4 + 1) H5 s.n s.H ∧ s.f 1 = .pointer (some ⟨n, 0, none⟩) ∧ s.f 3 = .int .i64 (m : Nat) ∧ s.f 4 = .slice (some ⟨n2, 0, none⟩) g.terms.length g.terms.length ∧ s.f 5 = .int .i64 (i : Nat) ∧ s.f 6 = .pointer (some ⟨n4, 0, none⟩) ∧ s.f 24 = .slice (some ⟨z, kz, none⟩) g.rules.length g.rules.length ∧ s.f 25 = .int .i64 (g.rules.length : Nat) ∧ s.f 26 = .int .i64 (i : Nat) ∧ Lft) ?_ ?_
      · by_cases e1 : r.left = m
        · have e1' := eq_true e1
          repeat (first | refine qqm rfl ?_ | ((first | refine qqr ?_ | refine qqt ?_); simp only [SS, qx1, vun, simprocAttr, f1, f3, bR, bb', q0, q1, q2, gc_1, gc_len, e1', hl0', hl1', hlen', hw1', decide_true, decide_false, Bool.not_true, ff_24]))
          refine AtCall.by (gtold_true hwgt htold hG5) ?_
          rintro v n6 H6 k6 rfl
          · simp only [SS, qx1, vun, simprocAttr, ff_24]
            repeat (first | refine qqm rfl ?_ | ((first | refine qqr ?_ | refine qqt ?_); simp only [SS, qx1, vun, simprocAttr, ff_24]))
            exact WK.skipNil (.inl ⟨rfl, k6, f1, f3, f4, rfl, rfl, f24, f25, f26, by rw [hL]; exact .inl e1⟩)
        · have e1' := eq_false e1
          by_cases e2 : r.left = (m : Int) - 1
          · have e2' := eq_true e2
            repeat (first | refine qqm rfl ?_ | ((first | refine qqr ?_ | refine qqt ?_); simp only [SS, qx1, vun, simprocAttr, f1, f3, bR, bb', q0, q1, q2, gc_1, gc_len, e1', e2', hl0', hl1', hlen', hw1', decide_true, decide_false, Bool.not_true, Bool.not_false, ff_24]))
            refine AtCall.by (gtold_true hwgt htold hG5) ?_
            rintro v n6 H6 k6 rfl
            · simp only [SS, qx1, vun, simprocAttr, ff_24]
              repeat (first | refine qqm rfl ?_ | ((first | refine qqr ?_ | refine qqt ?_); simp only [SS, qx1, vun, simprocAttr, ff_24]))
              exact WK.skipNil (.inl ⟨rfl, k6, f1, f3, f4, rfl, rfl, f24, f25, f26, by rw [hL]; exact .inr e2⟩)
          · exact absurd hlm (by omega)
      clear f1 f3 f4 f24 f25 f26
      rintro ⟨f, n6, H6⟩ ⟨k6, f1, f3, f4, f5, f6, f24, f25, f26, hleft⟩
      simp only at k6 f1 f3 f4 f5 f6 f24 f25 f26
      rw [hL] at hleft
      have hle6 := k6.le
      have u6 := (k6.keep n2 (by omega)).trans bR'
      have b6 := (k6.keep n (by omega)).trans bb'
      have r6 := (k6.keep n4 (by omega)).trans bR
      obtain ⟨m', hm'⟩ : ∃ m' : Nat, r.left + 1 = (m' : Int) := ⟨(r.left + 1).toNat, by omega⟩
      have hlw : IntKind.i64.wrap (m' : Int) = (m' : Int) := by rw [wrap_in (by omega) (by omega)]
      have hm'v : m' ≤ g.vars.length := by omega
      have hMI' : MI g (i + 1) m' := ⟨fun h => by omega, fun q hq e => by
        obtain rfl : q = i := by omega
        rw [hrr]; omega⟩
      repeat (first | refine qqm rfl ?_ | ((first | refine qqr ?_ | refine qqt ?_); simp only [SS, qx1, vun, simprocAttr, f6, r6, q0, q1, hm', hlw, ff_24]))
      refine WK.cutRetBlock (fun s => Kp (n + 1) H1 s.n s.H ∧ ∃ us' : List Bool, UI g (i + 1) us' ∧ us'.length = g.terms.length ∧ n2 < s.n ∧ s.H n2 = .cells (us'.map .bool) 4 true ∧ s.H n4 = .cells [.int .i64 r.left, .slice p r.right.length r.right.length, .float .f64 r.weight] 44 true ∧ n4 < s.n ∧ s.f 1 = .pointer (some ⟨n, 0, none⟩) ∧ s.f 3 = .int .i64 (m' : Nat) ∧ s.f 4 = .slice (some ⟨n2, 0, none⟩) g.terms.length g.terms.length ∧ s.f 5 = .int .i64 (i : Nat) ∧ s.f 6 = .pointer (some ⟨n4, 0, none⟩) ∧ s.f 24 = .slice (some ⟨z, kz, none⟩) g.rules.length g.rules.length ∧ s.f 25 = .int .i64 (g.rules.length : Nat) ∧ s.f 26 = .int .i64 (i : Nat)) ?_ ?_
      · refine WK.loop (fun k s => ∃ (j : Nat) (us' : List Bool), Kp (n + 1) H1 s.n s.H ∧ IU g i r j us' ∧ us'.length = g.terms.length ∧ n2 < s.n ∧ s.H n2 = .cells (us'.map .bool) 4 true ∧ s.H n4 = .cells [.int .i64 r.left, .slice p r.right.length r.right.length, .float .f64 r.weight] 44 true ∧ n4 < s.n ∧ s.f 1 = .pointer (some ⟨n, 0, none⟩) ∧ s.f 3 = .int .i64 (m' : Nat) ∧ s.f 4 = .slice (some ⟨n2, 0, none⟩) g.terms.length g.terms.length ∧ s.f 5 = .int .i64 (i : Nat) ∧ s.f 6 = .pointer (some ⟨n4, 0, none⟩) ∧ s.f 24 = .slice (some ⟨z, kz, none⟩) g.rules.length g.rules.length ∧ s.f 25 = .int .i64 (g.rules.length : Nat) ∧ s.f 26 = .int .i64 (i : Nat) ∧
          s.f 71 = .slice p r.right.length r.right.length ∧ s.f 72 = .int .i64 (r.right.length : Nat) ∧ s.f 73 = .int .i64 (j : Nat) ∧ j ≤ r.right.length ∧ k = r.right.length - j) r.right.length ?_ ?_
        · exact ⟨0, us, kp5.trans k6, IU.zero hUI, hul, by show n2 < n6; omega, u6, r6, by show n4 < n6; omega, f1, rfl, f4, f5, f6, f24, f25, f26, rfl, rfl, rfl, Nat.zero_le _, rfl⟩
        clear f1 f3 f4 f5 f6 f24 f25 f26 u6 b6 r6
        rintro kk2 ⟨f, n7, H7⟩ ⟨j, us', kp7, hIU, hul7, hn7, u7, r7, hn47, f1, f3, f4, f5, f6, f24, f25, f26, f71, f72, f73, hj, rfl⟩ ih2
        simp only at kp7 hn7 u7 r7 hn47 f1 f3 f4 f5 f6 f24 f25 f26 f71 f72 f73 ih2
        have hw7 := kp7.wf hw1
        have b7 := (kp7.keep n (by omega)).trans hb
        have hg7 : RG H7 (.agg (gcells pt pv (some ⟨z, kz, none⟩) g).toArray) g := ⟨pt, pv, _, rfl, ht1.mono hw1 kp7, hv1.mono hw1 kp7, hr1.mono hw1 kp7⟩
        have keep7 : ∀ x, x < n → H7 x = H x := fun x hx => (kp7.keep x (by omega)).trans (k1.keep x hx)
        by_cases hjl : j < r.right.length
        · have hp7 : RA (Value.int .i64) H7 p r.right := hp1.mono hw1 kp7
          obtain ⟨zx, kx, dx, tx, ox, rfl, hzx, ex⟩ := hp7.at hjl
          have hjw : IntKind.i64.wrap ((j : Int) + 1) = ((j + 1 : Nat) : Int) := by rw [wrap_in (by omega) (by omega)]; rfl
          obtain ⟨hs1, hs2⟩ := hsym _ (List.getElem_mem hjl)
          have hsi := hri _ (List.getElem_mem hjl)
          have hsj : r.right[j]? = some r.right[j] := List.getElem?_eq_getElem hjl
          generalize r.right[j] = s at *
          have hsx : (if 0 ≤ s then decide (s < (g.vars.length : Int)) else decide (-s - 1 < (g.terms.length : Int))) = true := by
            split
            · exact decide_eq_true hs1
            · exact decide_eq_true (hs2 (by omega))
          repeat (first | refine qqm rfl ?_ | ((first | refine qqr ?_ | refine qqt ?_); simp only [SS, qx1, vun, simprocAttr, f1, f71, f72, f73, hjl, hzx, ex, b7, gc_all, gc_len, ff_24]))
          refine AtCall.by (gsymbol_gives hw7 hg7 hsi ⟨wg.vars, wg.terms⟩) ?_
          rintro v n8 H8 k8 rfl
          rw [hsx]
          have hw8 := k8.wf hw7
          have kp8 := kp7.trans k8
          have u8 := (k8.keep n2 hn7).trans u7
          have r8 := (k8.keep n4 hn47).trans r7
          have hle8 := k8.le
          simp only [SS, qx1, vun, simprocAttr, Bool.not_true, ff_24]
          repeat (first | refine qqm rfl ?_ | ((first | refine qqr ?_ | refine qqt ?_); simp only [SS, qx1, vun, simprocAttr, ff_24]))
          refine AtCall.by (isVar_gives _ _ _) ?_
          rintro v n9 H9 k9 ⟨rfl, rfl, rfl⟩
          by_cases h0 : 0 ≤ s
          · simp only [SS, qx1, vun, simprocAttr, h0, decide_true, Bool.not_true, ff_24]
            repeat (first | refine qqm rfl ?_ | ((first | refine qqr ?_ | refine qqt ?_); simp only [SS, qx1, vun, simprocAttr, f73, hjw, ff_24]))
            refine ih2 (r.right.length - (j + 1)) (by omega) _ ?_
            exact ⟨j + 1, us', kp8, hIU.pos hsj h0, hul7, by show n2 < n9; omega, u8, r8, by show n4 < n9; omega, f1, f3, f4, f5, f6, f24, f25, f26, f71, f72, rfl, hjl, rfl⟩
          · unfold inI at hsi
            have hn := bnot_i64 hsi.1 hsi.2
            obtain ⟨q, hq⟩ : ∃ q : Nat, -s - 1 = (q : Int) := ⟨(-s - 1).toNat, by omega⟩
            have hqt : q < g.terms.length := by have := hs2 (by omega); omega
            have hqs : (us'.map Value.bool).set q (.bool true) = (us'.set q true).map .bool := by rw [List.map_set]
            have hq1 : q + 1 ≤ us'.length := by omega
            rw [hq] at hn
            have kS := kp8.set (x := n2) (.cells ((us'.set q true).map .bool) 4 true) (by omega) (by omega)
            simp only [SS, qx1, vun, simprocAttr, h0, decide_false, Bool.not_false, ff_24]
            repeat (first | refine qqm rfl ?_ | ((first | refine qqr ?_ | refine qqt ?_); simp only [SS, qx1, vun, simprocAttr, f4, f73, hjw, hn, hqt, u8, hqs, hq1, List.length_map, ff_24]))
            refine ih2 (r.right.length - (j + 1)) (by omega) _ ?_
            exact ⟨j + 1, us'.set q true, kS, hIU.neg hsj hq (by omega), by simpa using hul7, by show n2 < n9; omega, hset_at _ _ _, (hset_ne _ _ _ (by omega)).trans r8, by show n4 < n9; omega, f1, f3, f4, f5, f6, f24, f25, f26, f71, f72, rfl, hjl, rfl⟩
        · repeat (first | refine qqm rfl ?_ | ((first | refine qqr ?_ | refine qqt ?_); simp only [SS, qx1, vun, simprocAttr, f71, f72, f73, hjl, ff_24]))
          exact WK.skipNil (.inl ⟨rfl, kp7, us', hIU.over hlt hrr (by omega), hul7, hn7, u7, r7, hn47, f1, f3, f4, f5, f6, f24, f25, f26⟩)
      clear f1 f3 f4 f5 f6 f24 f25 f26 u6 b6 r6
      rintro ⟨f, n7, H7⟩ ⟨kp7, us', hUI', hul7, hn7, u7, r7, hn47, f1, f3, f4, f5, f6, f24, f25, f26⟩
      simp only at kp7 hn7 u7 r7 hn47 f1 f3 f4 f5 f6 f24 f25 f26
      have hw7 := kp7.wf hw1
      have b7 := (kp7.keep n (by omega)).trans hb
      have z7 := (kp7.keep z hzl).trans hz0
      have keep7 : ∀ x, x < n → H7 x = H x := fun x hx => (kp7.keep x (by omega)).trans (k1.keep x hx)
      have hiw1 : IntKind.i64.wrap ((i : Int) - 1) = (i : Int) - 1 := by rw [wrap_in (by omega) (by omega)]
      repeat refine qqn rfl ?_
      (refine qqr ?_; simp only [SS, qx1, vun, simprocAttr, f5, hiw1, ff_24])
      repeat refine qqn rfl ?_
      refine WK.cutRetBlock (fun s => s.n = n7 ∧ s.H = H7 ∧ s.f 1 = .pointer (some ⟨n, 0, none⟩) ∧ s.f 3 = .int .i64 (m' : Nat) ∧ s.f 4 = .slice (some ⟨n2, 0, none⟩) g.terms.length g.terms.length ∧ s.f 24 = .slice (some ⟨z, kz, none⟩) g.rules.length g.rules.length ∧ s.f 25 = .int .i64 (g.rules.length : Nat) ∧ s.f 26 = .int .i64 (i : Nat)) ?_ ?_
      · refine WK.loop (fun k s => ∃ q : Nat, s.n = n7 ∧ s.H = H7 ∧ s.f 1 = .pointer (some ⟨n, 0, none⟩) ∧ s.f 3 = .int .i64 (m' : Nat) ∧ s.f 4 = .slice (some ⟨n2, 0, none⟩) g.terms.length g.terms.length ∧ s.f 6 = .pointer (some ⟨n4, 0, none⟩) ∧ s.f 24 = .slice (some ⟨z, kz, none⟩) g.rules.length g.rules.length ∧ s.f 25 = .int .i64 (g.rules.length : Nat) ∧ s.f 26 = .int .i64 (i : Nat) ∧ s.f 9 = .int .i64 ((q : Int) - 1) ∧ q ≤ i ∧ k = q) i ?_ ?_
        · exact ⟨i, rfl, rfl, f1, f3, f4, f6, f24, f25, f26, rfl, Nat.le_refl _, rfl⟩
        clear f1 f3 f4 f5 f6 f24 f25 f26
        rintro kk2 ⟨f, n8, H8⟩ ⟨q, rfl, rfl, f1, f3, f4, f6, f24, f25, f26, f9, hq, rfl⟩ ih2
        simp only at f1 f3 f4 f6 f24 f25 f26 f9 ih2 kp7 hn7 u7 r7 hn47 hw7 b7 z7 keep7
        cases kk2 with
        | zero =>
          have hneg : ((0 : Int) ≤ ((0 : Nat) : Int) - 1) = False := by simp
          repeat (first | refine qqm rfl ?_ | ((first | refine qqr ?_ | refine qqt ?_); simp only [SS, qx1, vun, simprocAttr, f9, hneg, ff_24]))
          exact WK.skipNil (.inl ⟨rfl, rfl, rfl, f1, f3, f4, f24, f25, f26⟩)
        | succ q =>
          have hq1 : (((q + 1 : Nat) : Int) - 1) = (q : Int) := by omega
          rw [hq1] at f9
          have hpos : ((0 : Int) ≤ (q : Int)) = True := by simp
          have hql : q < g.rules.length := by omega
          have hqw : IntKind.i64.wrap ((q : Int) - 1) = (q : Int) - 1 := by rw [wrap_in (by omega) (by omega)]
          obtain ⟨pq, e0, e1, hpq⟩ := hrest q (by omega)
          by_cases hll : (g.rules[q]'hql).left = r.left
          · have hll' := eq_true hll
            have heq := equalI_ne (n := n8) (hpq.mono hw1 kp7) (hp1.mono hw1 kp7) (wg.right _ (List.getElem_mem hql)).1 (hunl q hql (by omega) hll)
            repeat (first | refine qqm rfl ?_ | ((first | refine qqr ?_ | refine qqt ?_); simp only [SS, qx1, vun, simprocAttr, f1, f6, f9, hpos, b7, gc_2, gc_len, hql, z7, e0, e1, r7, q0, q1, hll', ff_24]))
            refine AtCall.by heq ?_
            rintro v n9 H9 k9 ⟨rfl, rfl, rfl⟩
            · simp only [SS, qx1, vun, simprocAttr, ff_24]
              repeat (first | refine qqm rfl ?_ | ((first | refine qqr ?_ | refine qqt ?_); simp only [SS, qx1, vun, simprocAttr, f9, hqw, ff_24]))
              exact ih2 q (by omega) _ ⟨q, rfl, rfl, f1, f3, f4, f6, f24, f25, f26, rfl, by omega, rfl⟩
          · have hll' := eq_false hll
            repeat (first | refine qqm rfl ?_ | ((first | refine qqr ?_ | refine qqt ?_); simp only [SS, qx1, vun, simprocAttr, f1, f6, f9, hpos, b7, gc_2, gc_len, hql, z7, e0, r7, q0, hll', decide_false, ff_24]))
            exact WK.skipNil (.inl ⟨rfl, rfl, rfl, f1, f3, f4, f24, f25, f26⟩)
      clear f1 f3 f4 f5 f6 f24 f25 f26
      rintro ⟨f, n8, H8⟩ ⟨rfl, rfl, f1, f3, f4, f24, f25, f26⟩
      simp only at f1 f3 f4 f24 f25 f26 kp7 hn7 u7
      repeat (first | refine qqm rfl ?_ | ((first | refine qqr ?_ | refine qqt ?_); simp only [SS, qx1, vun, simprocAttr, f26, hiw, ff_24]))
      refine ih (g.rules.length - (i + 1)) (by omega) _ ?_
      exact ⟨i + 1, m', us', kp7, f1, f3, f4, f24, f25, rfl, hn7, u7, hul7, hlt, hm'v, hMI', hUI', rfl⟩
    · have hmv : m = g.vars.length := mi_end G hMI (by omega) hm
      · have hmv' : ((m : Int) = (g.vars.length : Int)) = True := by simp [hmv]
        have hct := containsB_false (p := some ⟨n2, 0, none⟩) (l := us) (b := false) (n := n4) (H := H4) (fun _ => ⟨n2, 0, _, _, _, rfl, hu, fun j y e => by rw [Nat.zero_add, List.getElem?_map, e]; rfl⟩) (by rw [hul]; exact wg.terms) (ui_end G hUI (by omega) hul)
        rw [hul] at hct
        repeat (first | refine qqm rfl ?_ | ((first | refine qqr ?_ | refine qqt ?_); simp only [SS, qx1, vun, simprocAttr, f1, f3, f4, f24, f25, f26, hlt, hb4, gc_1, gc_len, hmv', decide_true, ff_24]))
        refine AtCall.by hct ?_
        rintro v n5 H5 k5 ⟨rfl, rfl, rfl⟩
        simp only [SS, qx1, vun, simprocAttr, ff_24]
        repeat (first | refine qqm rfl ?_ | ((first | refine qqr ?_ | refine qqt ?_); simp only [SS, qx1, vun, simprocAttr, ff_24]))
        first | refine qqf ?_ ?_ | refine qqg ?_ ?_
        · exact keep4
        · simp only [packed, qv, Nat.reduceEqDiff, ↓reduceIte, ff_24]
          all_goals simp
end Go.Proofs.YtihjaobjhmmboaaGreatDoor

namespace Go.Proofs.YtihjaobjhmmboaaGreatDoor
open Go.AM
set_option maxRecDepth 100000
def few (g : Gram) : Bool := decide (g.vars.length ≤ 8) && decide (g.terms.length ≤ 6) && decide (g.rules.length ≤ 24) && g.rules.all fun r => decide (r.right.length ≤ 8)
theorem few_gives {v : Value} {g : Gram} {n : Nat} {H : Heap} (hw : WF n H) (hg : RG H v g) (wg : WG g) :
  Gives Tryz.prog 9 [v] n H fun v _ _ => v = .bool (few g) := by
 obtain ⟨pt, pv, pr, rfl, ht, hv, hr⟩ := hg
 refine Gives.of orders ok9 (Nat.le_of_ble_eq_true rfl) ?_
 have hk := Kp.new n H (.cells (gcells pt pv pr g) 25 true)
 replace hr := hr.mono hw hk
 have hb := hset_at H n (.cells (gcells pt pv pr g) 25 true)
 repeat refine qqn rfl ?_
 (refine qqr ?_; simp only [SS, qx0, simprocAttr, abox, box_cells, box_one, ff_9])
 repeat refine qqn rfl ?_
 generalize hset H n (.cells (gcells pt pv pr g) 25 true) = H1 at *
 by_cases h1 : (8 : Int) < g.vars.length
 ·repeat (first | refine qqm rfl ?_ | ((first | refine qqr ?_ | refine qqt ?_); simp only [SS, qx0, simprocAttr, hb, h1, gc_1, ff_9]))
  first | refine qqf ?_ ?_ | refine qqg ?_ ?_
  ·exact hk.keep
  ·simp only [packed, qv, Nat.reduceEqDiff, ↓reduceIte, few, ff_9]
   simp; omega
 by_cases h2 : (6 : Int) < g.terms.length
 ·repeat (first | refine qqm rfl ?_ | ((first | refine qqr ?_ | refine qqt ?_); simp only [SS, qx0, simprocAttr, hb, h1, h2, gc_1, gc_0, ff_9]))
  first | refine qqf ?_ ?_ | refine qqg ?_ ?_
  ·exact hk.keep
  ·simp only [packed, qv, Nat.reduceEqDiff, ↓reduceIte, few, ff_9]
   simp; omega
 by_cases h3 : (24 : Int) < g.rules.length
 ·repeat (first | refine qqm rfl ?_ | ((first | refine qqr ?_ | refine qqt ?_); simp only [SS, qx0, simprocAttr, hb, h1, h2, h3, gc_1, gc_0, gc_2, ff_9]))
  first | refine qqf ?_ ?_ | refine qqg ?_ ?_
  ·exact hk.keep
  ·simp only [packed, qv, Nat.reduceEqDiff, ↓reduceIte, few, ff_9]
   simp; omega
 repeat (first | refine qqm rfl ?_ | ((first | refine qqr ?_ | refine qqt ?_); simp only [SS, qx0, simprocAttr, hb, h1, h2, h3, gc_1, gc_0, gc_2, ff_9]))
 refine WK.loop (fun k s => ∃ i, s.n = n + 1 ∧ s.H = H1 ∧ s.f 1 = .pointer (some ⟨n, 0, none⟩) ∧ s.f 3 = .int .i64 (i : Nat) ∧ i ≤ g.rules.length ∧ k = g.rules.length - i ∧ ∀ r ∈ g.rules.take i, r.right.length ≤ 8) g.rules.length ?_ ?_
 ·exact ⟨0, rfl, rfl, rfl, rfl, Nat.zero_le _, rfl, by simp⟩
 rintro k ⟨f, n', H'⟩ ⟨i, rfl, rfl, f1, f3, hi, rfl, hall⟩ ih
 simp only at f1 f3 ih hr hb
 by_cases hir : i < g.rules.length
 ·obtain ⟨x, k, cs, ty, own, p, rfl, hx, c0, c1, c2, hp⟩ := hr.at hir
  by_cases h8 : (8 : Int) < g.rules[i].right.length
  ·repeat (first | refine qqm rfl ?_ | ((first | refine qqr ?_ | refine qqt ?_); simp only [SS, qx0, simprocAttr, f1, f3, hb, gc_2, hir, hx, c1, h8, ff_9]))
   first | refine qqf ?_ ?_ | refine qqg ?_ ?_
   ·exact hk.keep
   ·simp only [packed, qv, Nat.reduceEqDiff, ↓reduceIte, few, ff_9]
    have : g.rules.all (fun r => decide (r.right.length ≤ 8)) = false := by
     rw [List.all_eq_false]; exact ⟨g.rules[i], List.getElem_mem hir, by simp; omega⟩
    rw [this]; simp
  ·repeat (first | refine qqm rfl ?_ | ((first | refine qqr ?_ | refine qqt ?_); simp only [SS, qx0, simprocAttr, f1, f3, hb, gc_2, hir, hx, c1, h8, ff_9]))
   refine ih (g.rules.length - (i + 1)) (by omega) _ ⟨i + 1, rfl, rfl, f1, ?_, hir, rfl, ?_⟩
   ·simp only [packed, qv, Nat.reduceEqDiff, ↓reduceIte, ff_9]
    have := wg.rules; unfold maxL at this
    rw [wrap_in (by omega) (by omega)]; rfl
   ·intro r hr'
    rw [List.take_succ_eq_append_getElem hir, List.mem_append] at hr'
    rcases hr' with hr' | hr'
    ·exact hall r hr'
    ·simp at hr'; subst hr'; omega
 ·repeat (first | refine qqm rfl ?_ | ((first | refine qqr ?_ | refine qqt ?_); simp only [SS, qx0, simprocAttr, f1, f3, hb, gc_2, hir, ff_9]))
  first | refine qqf ?_ ?_ | refine qqg ?_ ?_
  ·exact hk.keep
  ·simp only [packed, qv, Nat.reduceEqDiff, ↓reduceIte, few, ff_9]
   rw [List.take_of_length_le (by omega)] at hall
   have : g.rules.all (fun r => decide (r.right.length ≤ 8)) = true := by
    rw [List.all_eq_true]; exact fun r hr => by simpa using hall r hr
   rw [this]; simp; omega
end Go.Proofs.YtihjaobjhmmboaaGreatDoor
