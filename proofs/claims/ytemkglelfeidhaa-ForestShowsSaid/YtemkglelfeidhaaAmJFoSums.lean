/- A part of a proof. Its conditions: none. -/
import Derived.Test.YtemkglelfeidhaaAmJLfForm
import Derived.Test.YtemkglelfeidhaaAmD
import Derived.Test.YtemkglelfeidhaaAmC
import Derived.Test.YtemkglelfeidhaaAmJFacts
import Derived.Test.YtemkglelfeidhaaAmJFoTrees
import Derived.Test.YtemkglelfeidhaaAmJLfLess
import Derived.Test.YtemkglelfeidhaaAmJLfNullable
set_option linter.all false
namespace Go.Proofs.Ytemkglelfeidhaa
open Go.AM
set_option maxRecDepth 100000
theorem stepS_err {g : Gram} {form : List Int} {r : Int} (h : (stepS g form r).2 ≠ 0) : (stepS g form r).1 = [] := by
 revert h
 unfold stepS
 split
 ·simp
 ·split
  ·simp
  ·split
   ·split <;> simp
   ·simp
theorem stepS_len {g : Gram} (ok : RightOK g) (form : List Int) (r : Int) : (stepS g form r).1.length ≤ form.length + 24 := by
 by_cases h : (stepS g form r).2 = 0
 ·obtain ⟨i, hi, t, rest, _, e1, e2, _⟩ := stepS_ok (g := g) (form := form) (r := r) (form' := (stepS g form r).1) (by rw [← h])
  have := (ok.rule i hi).len
  rw [e2]
  conv => rhs; rw [e1]
  simp only [List.length_append, List.length_cons]
  omega
 ·have := stepS_err h
  rw [this]; simp
set_option maxHeartbeats 8000000 in
theorem replay_gives {v : Value} {g : Gram} {p q : Option Addr} {form rules : List Int} {n : Nat} {H : Heap} (hw : WF n H) (hg : RG H v g) (wg : WG g) (ok : RightOK g) (hp : RA (Value.int .i64) H p form) (hq : RA (Value.int .i64) H q rules) (hl : form.length + 24 * rules.length + 24 ≤ 2147483648) :
  Gives Try.prog 31 [v, .slice p form.length form.length, .slice q rules.length rules.length] n H fun v _ H' => ∃ p', v = .tuple #[.slice p' (replayL g form rules).1.length (replayL g form rules).1.length, .int .i64 ((replayL g form rules).2.1 : Nat), .int .i64 ((replayL g form rules).2.2 : Nat)] ∧ RS (Value.int .i64) H' p' (replayL g form rules).1 := by
 have hg0 := hg
 obtain ⟨pt, pv, pr, rfl, ht, hv, hr⟩ := hg
 refine Gives.of orders ok31 (Nat.le_of_ble_eq_true rfl) ?_
 have hk := Kp.new n H (.cells (gcells pt pv pr g) 25 true)
 have hb := hset_at H n (.cells (gcells pt pv pr g) 25 true)
 repeat refine qqn rfl ?_
 (refine qqr ?_; simp only [SS, qx8, simprocAttr, box_cells, box_one, ff_31])
 have hw1 := hk.wf hw
 replace hp := hp.mono hw hk
 replace hq := hq.mono hw hk
 replace hr := hr.mono hw hk
 generalize hset H n (.cells (gcells pt pv pr g) 25 true) = H1 at *
 by_cases h4 : (4096 : Int) < rules.length
 ·repeat (first | refine qqm rfl ?_ | ((first | refine qqr ?_ | refine qqt ?_); simp only [SS, qx8, simprocAttr, h4, ff_31]))
  (first | refine WK.retNil ⟨Or.inr rfl, _, rfl, ?_, ?_⟩ | refine WK.skipNil ⟨Or.inl rfl, _, rfl, ?_, ?_⟩)
  ·exact hk.keep
  ·simp only [packed, fset_apply, Nat.reduceEqDiff, ↓reduceIte, List.getD_cons_zero, List.getD_cons_succ, ff_31]
   have e : replayL g form rules = ([], 0, 7) := by unfold replayL; rw [if_pos (by omega)]
   rw [e]
   exact ⟨none, rfl, .inl ⟨rfl, rfl⟩⟩
 have eL : replayL g form rules = replayS g form rules 0 := by unfold replayL; rw [if_neg (by omega)]
 rw [eL]
 repeat (first | refine qqm rfl ?_ | ((first | refine qqr ?_ | refine qqt ?_); simp only [SS, qx8, simprocAttr, h4, hb, gc_len, gc_all, ff_31]))
 refine AtCall.by (begin_gives (g := g) hw1 hp (by omega)) ?_
 rintro v n2 H2 k2 ⟨r, hr0, rfl, hrun⟩
 simp only [SS, qx8, simprocAttr, ff_31]
 repeat (first | refine qqm rfl ?_ | ((first | refine qqr ?_ | refine qqt ?_); simp only [SS, qx8, simprocAttr, ff_31]))
 have hform := layS_form [] form
 rw [List.nil_append] at hform
 have hlaid := layS_laid (done := []) (pend := form) (fun s hs => by cases hs)
 refine WK.loop (fun k s => ∃ (j : Nat) (d p' : List Int), Kp (n + 1) H1 s.n s.H ∧ Runs (n + 1) s.H r pt pv pr g d p'.reverse ∧ Laid d p' ∧ (d ++ p').length ≤ form.length + 24 * j ∧ replayS g form rules 0 = replayS g (d ++ p') (rules.drop j) j ∧ s.f 9 = .pointer (some ⟨r, 0, none⟩) ∧ s.f 19 = .slice q rules.length rules.length ∧ s.f 20 = .int .i64 rules.length ∧ s.f 21 = .int .i64 (j : Nat) ∧ j ≤ rules.length ∧ k = rules.length - j) rules.length ?_ ?_
 ·exact ⟨0, _, _, k2, hrun, hlaid, by rw [hform]; omega, by rw [hform]; rfl, rfl, rfl, rfl, rfl, Nat.zero_le _, rfl⟩
 rintro kk ⟨f, n4, H4⟩ ⟨j, d, p', kp, hrun, hlaid, hlen, hrep, f9, f19, f20, f21, hj, rfl⟩ ih
 simp only at f9 f19 f20 f21 ih kp hrun
 have hw4 := kp.wf hw1
 by_cases hjl : j < rules.length
 ·have hjw : IntKind.i64.wrap ((j : Int) + 1) = ((j + 1 : Nat) : Int) := by rw [wrap_in (by omega) (by omega)]; rfl
  have hq4 := hq.mono hw1 kp
  obtain ⟨x, kx, ds, tx, ox, rfl, hx, ex⟩ := hq4.at hjl
  rw [List.length_append] at hlen
  repeat (first | refine qqm rfl ?_ | ((first | refine qqr ?_ | refine qqt ?_); simp only [SS, qx8, simprocAttr, f9, f19, f20, f21, hjl, hx, ex, ff_31]))
  refine AtCall.byX (stepr_gives (q := rules[j]) hw1 kp hr0 hrun hlaid hr ok (by omega)) ?_
  rintro v n5 H5 kx5 ⟨rfl, hres⟩
  have hdrop : rules.drop j = rules[j] :: rules.drop (j + 1) := List.drop_eq_getElem_cons hjl
  rw [hdrop] at hrep
  simp only [replayS] at hrep
  have hsl := stepS_len ok (d ++ p') rules[j]
  rw [List.length_append] at hsl
  have kp5 : Kp (n + 1) H1 n5 H5 := ⟨by have := kp.le; have := kx5.le; omega, fun y hy => (kx5.keep y (by have := kp.le; omega) (by omega)).trans (kp.keep y hy), fun h => kx5.wf (kp.wf h)⟩
  by_cases he : (stepS g (d ++ p') rules[j]).2 = 0
  ·rw [if_pos he] at hrep
   obtain ⟨d2, p2, hrun2, hlaid2, hfe⟩ := hres he
   rw [he]
   have h00 : (((0 : Nat) : Int) = 0) = True := by simp
   simp only [SS, qx8, simprocAttr, ff_31]
   repeat (first | refine qqm rfl ?_ | ((first | refine qqr ?_ | refine qqt ?_); simp only [SS, qx8, simprocAttr, f21, h00, ff_31]))
   refine ih (rules.length - (j + 1)) (by omega) _ ⟨j + 1, d2, p2, kp5, hrun2, hlaid2, by rw [hfe]; omega, by rw [hfe]; exact hrep, f9, f19, f20, ?_, hjl, rfl⟩
   simp only [packed, fset_apply, Nat.reduceEqDiff, ↓reduceIte, List.getD_cons_zero, List.getD_cons_succ, f21, hjw, ff_31]
  ·rw [if_neg he] at hrep
   have he' : (((stepS g (d ++ p') rules[j]).2 : Nat) : Int) = 0 ↔ False := by simp; exact he
   simp only [SS, qx8, simprocAttr, ff_31]
   repeat (first | refine qqm rfl ?_ | ((first | refine qqr ?_ | refine qqt ?_); simp only [SS, qx8, simprocAttr, f21, he', ff_31]))
   (first | refine WK.retNil ⟨Or.inr rfl, _, rfl, ?_, ?_⟩ | refine WK.skipNil ⟨Or.inl rfl, _, rfl, ?_, ?_⟩)
   ·exact fun y hy => (kp5.keep y (by omega)).trans (hk.keep y hy)
   ·simp only [packed, fset_apply, Nat.reduceEqDiff, ↓reduceIte, List.getD_cons_zero, List.getD_cons_succ, f21, ff_31]
    rw [hrep]
    exact ⟨none, rfl, .inl ⟨rfl, rfl⟩⟩
 ·have hje : j = rules.length := by omega
  subst hje
  rw [List.drop_length] at hrep
  simp only [replayS] at hrep
  repeat (first | refine qqm rfl ?_ | ((first | refine qqr ?_ | refine qqt ?_); simp only [SS, qx8, simprocAttr, f9, f20, f21, hjl, ff_31]))
  rw [List.length_append] at hlen
  refine AtCall.by (form_gives hw4 hrun (by rw [List.length_reverse]; omega)) ?_
  rintro v n5 H5 k5 ⟨p5, rfl, hp5⟩
  rw [List.reverse_reverse] at hp5
  rw [List.reverse_reverse]
  simp only [SS, qx8, simprocAttr, ff_31]
  repeat (first | refine qqm rfl ?_ | ((first | refine qqr ?_ | refine qqt ?_); simp only [SS, qx8, simprocAttr, ff_31]))
  (first | refine WK.retNil ⟨Or.inr rfl, _, rfl, ?_, ?_⟩ | refine WK.skipNil ⟨Or.inl rfl, _, rfl, ?_, ?_⟩)
  ·exact fun y hy => ((kp.trans k5).keep y (by omega)).trans (hk.keep y hy)
  ·simp only [packed, fset_apply, Nat.reduceEqDiff, ↓reduceIte, List.getD_cons_zero, List.getD_cons_succ, ff_31]
   rw [hrep]
   exact ⟨p5, rfl, hp5⟩
end Go.Proofs.Ytemkglelfeidhaa

namespace Go.Proofs.Ytemkglelfeidhaa
open Go.AM
set_option maxRecDepth 100000
def leadV (form : List Int) : List Int := (form.takeWhile AM.neg).map fun s => -s - 1
def leadP (form : List Int) : Int := if form.dropWhile AM.neg = [] then -1 else ((form.takeWhile AM.neg).length : Int)
set_option maxHeartbeats 4000000 in
theorem lead_gives {p : Option Addr} {form : List Int} {n : Nat} {H : Heap} (hw : WF n H) (hp : RA (Value.int .i64) H p form) (hl : form.length ≤ 2147483648) (hr : ∀ s ∈ form, -9223372036854775808 ≤ s) :
    Gives Try.prog 32 [.slice p form.length form.length] n H fun v _ H' => ∃ p', v = .tuple #[.slice p' (leadV form).length (leadV form).length, .int .i64 (leadP form)] ∧ RS (Value.int .i64) H' p' (leadV form) := by
  refine Gives.of orders ok32 (Nat.le_of_ble_eq_true rfl) ?_
  repeat (first | refine qqm rfl ?_ | ((first | refine qqr ?_ | refine qqt ?_); simp only [SS, qx32, vun, simprocAttr, ff_32]))
  refine WK.loop (fun k s => ∃ (j : Nat) (o : List Int), Kp n H s.n s.H ∧ (s.f 4 = .slice none 0 0 ∧ o = [] ∨ ∃ y, s.f 4 = .slice (some ⟨y, 0, none⟩) o.length o.length ∧ s.H y = .cells (o.map (Value.int .i64)) 3 true ∧ n ≤ y) ∧ s.f 7 = .slice p form.length form.length ∧ s.f 8 = .int .i64 (form.length : Nat) ∧ s.f 9 = .int .i64 (j : Nat) ∧ j ≤ form.length ∧
      (∀ s ∈ form.take j, s < 0) ∧ o = (form.take j).map (fun s => -s - 1) ∧ k = form.length - j) form.length ?_ ?_
  · exact ⟨0, [], Kp.refl _ _, .inl ⟨rfl, rfl⟩, rfl, rfl, rfl, Nat.zero_le _, by simp, by simp, rfl⟩
  rintro kk ⟨f, n5, H5⟩ ⟨j, o, kp, ho, f7, f8, f9, hj, hneg, hoe, rfl⟩ ih
  simp only at ho f7 f8 f9 ih kp
  have hw5 := kp.wf hw
  have hrs : ∀ (v : Value), v = f 4 → ∃ p', v = .slice p' o.length o.length ∧ RS (Value.int .i64) H5 p' o := by
    rintro v rfl
    rcases ho with ⟨e, rfl⟩ | ⟨y, e, hy, _⟩
    · exact ⟨none, e, .inl ⟨rfl, rfl⟩⟩
    · refine ⟨_, e, .inr ⟨y, 0, _, _, _, rfl, hy, by simp, fun i s e => ?_⟩⟩
      rw [List.getElem?_map, Nat.zero_add, e]; rfl
  have hol : o.length = j := by rw [hoe, List.length_map, List.length_take]; omega
  by_cases hjl : j < form.length
  · have hjw : IntKind.i64.wrap ((j : Int) + 1) = ((j + 1 : Nat) : Int) := by rw [wrap_in (by omega) (by omega)]; rfl
    obtain ⟨x, kx, ds, tx, ox, rfl, hx, ex⟩ := (hp.mono hw kp).at hjl
    have htj : form.take (j + 1) = form.take j ++ [form[j]] := List.take_succ_eq_append_getElem hjl
    repeat (first | refine qqm rfl ?_ | ((first | refine qqr ?_ | refine qqt ?_); simp only [SS, qx32, vun, simprocAttr, f7, f8, f9, hjl, hx, ex, ff_32]))
    refine AtCall.by (isVar_gives _ _ _) ?_
    rintro v n2 H2 hk2 ⟨rfl, rfl, rfl⟩
    by_cases h0 : 0 ≤ form[j]
    · simp only [SS, qx32, vun, simprocAttr, h0, ff_32]
      repeat (first | refine qqm rfl ?_ | ((first | refine qqr ?_ | refine qqt ?_); simp only [SS, qx32, vun, simprocAttr, ff_32]))
      (first | refine WK.retNil ⟨Or.inr rfl, _, rfl, ?_, ?_⟩ | refine WK.skipNil ⟨Or.inl rfl, _, rfl, ?_, ?_⟩)
      · exact kp.keep
      · simp only [packed, fset_apply, Nat.reduceEqDiff, ↓reduceIte, List.getD_cons_zero, List.getD_cons_succ, ff_32]
        obtain ⟨e1, e2⟩ := tw_at hjl hneg h0
        obtain ⟨p', e3, h3⟩ := hrs _ rfl
        rw [e3]
        unfold leadV leadP
        rw [e1, e2, ← hoe]
        refine ⟨p', ?_, h3⟩
        rw [if_neg (List.cons_ne_nil _ _), List.length_take, Nat.min_eq_left (Nat.le_of_lt hjl)]
    · have hn := bnot_i64 (n := form[j]) (hr _ (List.getElem_mem hjl)) (by omega)
      have hneg' : ∀ s ∈ form.take (j + 1), s < 0 := fun s hs => by
        rw [htj] at hs
        rcases List.mem_append.1 hs with hs | hs
        · exact hneg s hs
        · have : s = form[j] := by simpa using hs
          omega
      have hoe' : o ++ [-form[j] - 1] = (form.take (j + 1)).map (fun s => -s - 1) := by rw [htj, List.map_append, ← hoe]; rfl
      rcases ho with ⟨e, rfl⟩ | ⟨y, e, hy, hyn⟩
      · simp only [SS, qx32, vun, simprocAttr, h0, ff_32]
        repeat (first | refine qqm rfl ?_ | ((first | refine qqr ?_ | refine qqt ?_); simp only [SS, qx32, vun, simprocAttr, e, f9, hjw, hn, ff_32]))
        refine ih (form.length - (j + 1)) (by omega) _ ⟨j + 1, [-form[j] - 1], (kp.trans (Kp.new n2 H2 (.cells [.int .i64 (-form[j] - 1)] 3 true))).trans (Kp.new (n2 + 1) _ (.cells [.int .i64 (-form[j] - 1)] 3 true)), .inr ⟨n2 + 1, rfl, hset_at _ _ _, by have := kp.le; omega⟩, f7, f8, ?_, hjl, hneg', hoe', rfl⟩
        simp only [packed, fset_apply, Nat.reduceEqDiff, ↓reduceIte, List.getD_cons_zero, List.getD_cons_succ, f9, hjw, ff_32]
      · have hyl := live_lt hw5 (live_of hy)
        have v1 : o.length ≤ (o.map (Value.int .i64)).length := by simp
        have v2 : [n2].contains y = false := by simp; omega
        have v3 : o.length + 1 ≤ bigN := by unfold bigN; omega
        have v5 : ∀ q, hset H2 n2 q y = _ := fun q => (hset_ne _ _ _ (by omega)).trans hy
        have v6 : (o.map (Value.int .i64)).take o.length = o.map (Value.int .i64) := List.take_of_length_le (by simp)
        simp only [SS, qx32, vun, simprocAttr, h0, ff_32]
        repeat (first | refine qqm rfl ?_ | ((first | refine qqr ?_ | refine qqt ?_); simp only [SS, qx32, vun, simprocAttr, e, f9, hjw, hn, v1, v2, v3, v5, v6, List.drop_zero, ff_32]))
        refine ih (form.length - (j + 1)) (by omega) _ ⟨j + 1, o ++ [-form[j] - 1], ((kp.trans (Kp.new n2 H2 (.cells [.int .i64 (-form[j] - 1)] 3 true))).set (x := y) .dead hyn (by omega)).trans (Kp.new (n2 + 1) _ (.cells (o.map (Value.int .i64) ++ [.int .i64 (-form[j] - 1)]) 3 true)), .inr ⟨n2 + 1, ?_, ?_, by have := kp.le; omega⟩, f7, f8, ?_, hjl, hneg', hoe', rfl⟩
        · simp only [packed, fset_apply, Nat.reduceEqDiff, ↓reduceIte, List.getD_cons_zero, List.getD_cons_succ, ff_32]
          simp
        · refine (hset_at _ _ _).trans ?_
          rw [List.map_append]; rfl
        · simp only [packed, fset_apply, Nat.reduceEqDiff, ↓reduceIte, List.getD_cons_zero, List.getD_cons_succ, f9, hjw, ff_32]
  · repeat (first | refine qqm rfl ?_ | ((first | refine qqr ?_ | refine qqt ?_); simp only [SS, qx32, vun, simprocAttr, f8, f9, hjl, ff_32]))
    (first | refine WK.retNil ⟨Or.inr rfl, _, rfl, ?_, ?_⟩ | refine WK.skipNil ⟨Or.inl rfl, _, rfl, ?_, ?_⟩)
    · exact kp.keep
    · simp only [packed, fset_apply, Nat.reduceEqDiff, ↓reduceIte, List.getD_cons_zero, List.getD_cons_succ, ff_32]
      rw [List.take_of_length_le (by omega)] at hneg hoe
      obtain ⟨e1, e2⟩ := tw_all hneg
      obtain ⟨p', e3, h3⟩ := hrs _ rfl
      rw [e3]
      unfold leadV leadP
      rw [e1, e2, if_pos rfl, ← hoe]
      exact ⟨p', rfl, h3⟩
def yieldS (g : Gram) (form rules : List Int) : List Int × Nat :=
 if (replayL g form rules).2.2 = 0 then (if 0 ≤ leadP (replayL g form rules).1 then ([], 13) else (leadV (replayL g form rules).1, 0)) else ([], (replayL g form rules).2.2)
theorem stepS_ge {g : Gram} (ok : RightOK g) {form : List Int} (hf : ∀ s ∈ form, -9223372036854775808 ≤ s) (r : Int) : ∀ s ∈ (stepS g form r).1, -9223372036854775808 ≤ s := by
 by_cases h : (stepS g form r).2 = 0
 ·obtain ⟨i, hi, t, rest, _, e1, e2, _⟩ := stepS_ok (g := g) (form := form) (r := r) (form' := (stepS g form r).1) (by rw [← h])
  intro s hs
  rw [e2] at hs
  have ht := ok.terms
  rcases List.mem_append.1 hs with hs | hs
  ·rcases List.mem_append.1 hs with hs | hs
   ·exact hf s (by rw [e1]; simp [hs])
   ·have := ((ok.rule i hi).sym s hs).2
    omega
  ·exact hf s (by rw [e1]; simp [hs])
 ·have := stepS_err h
  rw [this]; intro s hs; cases hs
theorem replayS_ge {g : Gram} (ok : RightOK g) : ∀ (rules form : List Int) (k : Nat), (∀ s ∈ form, -9223372036854775808 ≤ s) → (∀ s ∈ (replayS g form rules k).1, -9223372036854775808 ≤ s) ∧ (replayS g form rules k).1.length ≤ form.length + 24 * rules.length := by
 intro rules
 induction rules with
 | nil => intro form k h; exact ⟨h, by simp [replayS]⟩
 | cons r rules ih =>
  intro form k h
  simp only [replayS]
  split
  ·obtain ⟨h1, h2⟩ := ih (stepS g form r).1 (k + 1) (stepS_ge ok h r)
   refine ⟨h1, ?_⟩
   have := stepS_len ok form r
   rw [List.length_cons]; omega
  ·exact ⟨fun s hs => (by cases hs), by simp⟩
theorem replayL_ge {g : Gram} (ok : RightOK g) (form rules : List Int) (h : ∀ s ∈ form, -9223372036854775808 ≤ s) : (∀ s ∈ (replayL g form rules).1, -9223372036854775808 ≤ s) ∧ (replayL g form rules).1.length ≤ form.length + 24 * rules.length := by
 unfold replayL
 split
 ·exact ⟨fun s hs => (by cases hs), by simp⟩
 ·exact replayS_ge ok _ _ _ h
theorem yield_gives {v : Value} {g : Gram} {p q : Option Addr} {form rules : List Int} {n : Nat} {H : Heap} (hw : WF n H) (hg : RG H v g) (wg : WG g) (ok : RightOK g) (hp : RA (Value.int .i64) H p form) (hq : RA (Value.int .i64) H q rules) (hl : form.length + 24 * rules.length + 24 ≤ 2147483648) (hf : ∀ s ∈ form, -9223372036854775808 ≤ s) :
  Gives Try.prog 12 [v, .slice p form.length form.length, .slice q rules.length rules.length] n H fun v _ H' => ∃ p', v = .tuple #[.slice p' (yieldS g form rules).1.length (yieldS g form rules).1.length, .int .i64 ((yieldS g form rules).2 : Nat)] ∧ RS (Value.int .i64) H' p' (yieldS g form rules).1 := by
 have hg0 := hg
 obtain ⟨pt, pv, pr, rfl, ht, hv, hr⟩ := hg
 refine Gives.of orders ok12 (Nat.le_of_ble_eq_true rfl) ?_
 have hk := Kp.new n H (.cells (gcells pt pv pr g) 25 true)
 have hb := hset_at H n (.cells (gcells pt pv pr g) 25 true)
 repeat refine qqn rfl ?_
 (refine qqr ?_; simp only [SS, qx17, simprocAttr, box_cells, box_one, ff_12])
 generalize hset H n (.cells (gcells pt pv pr g) 25 true) = H1 at *
 have hw1 := hk.wf hw
 have hge := replayL_ge ok form rules hf
 repeat refine qqn rfl ?_
 (refine qqr ?_; simp only [SS, qx17, simprocAttr, hb, gc_len, gc_all, ff_12])
 refine AtCall.by (replay_gives hw1 (hg0.mono hw hk) wg ok (hp.mono hw hk) (hq.mono hw hk) hl) ?_
 rintro v n2 H2 k2 ⟨p2, rfl, hp2⟩
 have kk := hk.trans k2
 unfold yieldS
 generalize replayL g form rules = R at *
 obtain ⟨out, w, e⟩ := R
 simp only at hp2 hge ⊢
 by_cases he : e = 0
 ·subst he
  have h00 : (((0 : Nat) : Int) = 0) = True := by simp
  simp only [SS, qx17, simprocAttr, ff_12]
  repeat (first | refine qqm rfl ?_ | ((first | refine qqr ?_ | refine qqt ?_); simp only [SS, qx17, simprocAttr, h00, ff_12]))
  refine AtCall.by (lead_gives (kk.wf hw) hp2.ra (by omega) hge.1) ?_
  rintro v n3 H3 k3 ⟨p3, rfl, hp3⟩
  by_cases hlp : 0 ≤ leadP out
  ·simp only [SS, qx17, simprocAttr, ff_12]
   repeat (first | refine qqm rfl ?_ | ((first | refine qqr ?_ | refine qqt ?_); simp only [SS, qx17, simprocAttr, hlp, ff_12]))
   (first | refine WK.retNil ⟨Or.inr rfl, _, rfl, ?_, ?_⟩ | refine WK.skipNil ⟨Or.inl rfl, _, rfl, ?_, ?_⟩)
   ·exact (kk.trans k3).keep
   ·simp only [packed, fset_apply, Nat.reduceEqDiff, ↓reduceIte, List.getD_cons_zero, List.getD_cons_succ, ff_12]
    exact ⟨none, rfl, .inl ⟨rfl, rfl⟩⟩
  ·simp only [SS, qx17, simprocAttr, ff_12]
   repeat (first | refine qqm rfl ?_ | ((first | refine qqr ?_ | refine qqt ?_); simp only [SS, qx17, simprocAttr, hlp, ff_12]))
   (first | refine WK.retNil ⟨Or.inr rfl, _, rfl, ?_, ?_⟩ | refine WK.skipNil ⟨Or.inl rfl, _, rfl, ?_, ?_⟩)
   ·exact (kk.trans k3).keep
   ·simp only [packed, fset_apply, Nat.reduceEqDiff, ↓reduceIte, List.getD_cons_zero, List.getD_cons_succ, ff_12]
    exact ⟨p3, rfl, hp3⟩
 ·have h00 : ((e : Int) = 0) = False := by simp; exact he
  simp only [SS, qx17, simprocAttr, ff_12]
  repeat (first | refine qqm rfl ?_ | ((first | refine qqr ?_ | refine qqt ?_); simp only [SS, qx17, simprocAttr, h00, ff_12]))
  (first | refine WK.retNil ⟨Or.inr rfl, _, rfl, ?_, ?_⟩ | refine WK.skipNil ⟨Or.inl rfl, _, rfl, ?_, ?_⟩)
  ·exact kk.keep
  ·simp only [packed, fset_apply, Nat.reduceEqDiff, ↓reduceIte, List.getD_cons_zero, List.getD_cons_succ, ff_12]
   rw [if_neg he]
   exact ⟨none, rfl, .inl ⟨rfl, rfl⟩⟩
end Go.Proofs.Ytemkglelfeidhaa

namespace Go.Proofs.Ytemkglelfeidhaa
open Go.AM
set_option maxRecDepth 100000
def few (g : Gram) : Bool := decide (g.vars.length ≤ 8) && decide (g.terms.length ≤ 6) && decide (g.rules.length ≤ 24) && g.rules.all fun r => decide (r.right.length ≤ 8)
theorem few_gives {v : Value} {g : Gram} {n : Nat} {H : Heap} (hw : WF n H) (hg : RG H v g) (wg : WG g) :
  Gives Try.prog 8 [v] n H fun v _ _ => v = .bool (few g) := by
 obtain ⟨pt, pv, pr, rfl, ht, hv, hr⟩ := hg
 refine Gives.of orders ok8 (Nat.le_of_ble_eq_true rfl) ?_
 have hk := Kp.new n H (.cells (gcells pt pv pr g) 25 true)
 replace hr := hr.mono hw hk
 have hb := hset_at H n (.cells (gcells pt pv pr g) 25 true)
 repeat refine qqn rfl ?_
 (refine qqr ?_; simp only [SS, qx0, simprocAttr, abox, box_cells, box_one, ff_8])
 repeat refine qqn rfl ?_
 generalize hset H n (.cells (gcells pt pv pr g) 25 true) = H1 at *
 by_cases h1 : (8 : Int) < g.vars.length
 ·repeat (first | refine qqm rfl ?_ | ((first | refine qqr ?_ | refine qqt ?_); simp only [SS, qx0, simprocAttr, hb, h1, gc_1, ff_8]))
  (first | refine WK.retNil ⟨Or.inr rfl, _, rfl, ?_, ?_⟩ | refine WK.skipNil ⟨Or.inl rfl, _, rfl, ?_, ?_⟩)
  ·exact hk.keep
  ·simp only [packed, fset_apply, Nat.reduceEqDiff, ↓reduceIte, List.getD_cons_zero, List.getD_cons_succ, few, ff_8]
   simp; omega
 by_cases h2 : (6 : Int) < g.terms.length
 ·repeat (first | refine qqm rfl ?_ | ((first | refine qqr ?_ | refine qqt ?_); simp only [SS, qx0, simprocAttr, hb, h1, h2, gc_1, gc_0, ff_8]))
  (first | refine WK.retNil ⟨Or.inr rfl, _, rfl, ?_, ?_⟩ | refine WK.skipNil ⟨Or.inl rfl, _, rfl, ?_, ?_⟩)
  ·exact hk.keep
  ·simp only [packed, fset_apply, Nat.reduceEqDiff, ↓reduceIte, List.getD_cons_zero, List.getD_cons_succ, few, ff_8]
   simp; omega
 by_cases h3 : (24 : Int) < g.rules.length
 ·repeat (first | refine qqm rfl ?_ | ((first | refine qqr ?_ | refine qqt ?_); simp only [SS, qx0, simprocAttr, hb, h1, h2, h3, gc_1, gc_0, gc_2, ff_8]))
  (first | refine WK.retNil ⟨Or.inr rfl, _, rfl, ?_, ?_⟩ | refine WK.skipNil ⟨Or.inl rfl, _, rfl, ?_, ?_⟩)
  ·exact hk.keep
  ·simp only [packed, fset_apply, Nat.reduceEqDiff, ↓reduceIte, List.getD_cons_zero, List.getD_cons_succ, few, ff_8]
   simp; omega
 repeat (first | refine qqm rfl ?_ | ((first | refine qqr ?_ | refine qqt ?_); simp only [SS, qx0, simprocAttr, hb, h1, h2, h3, gc_1, gc_0, gc_2, ff_8]))
 refine WK.loop (fun k s => ∃ i, s.n = n + 1 ∧ s.H = H1 ∧ s.f 1 = .pointer (some ⟨n, 0, none⟩) ∧ s.f 3 = .int .i64 (i : Nat) ∧ i ≤ g.rules.length ∧ k = g.rules.length - i ∧ ∀ r ∈ g.rules.take i, r.right.length ≤ 8) g.rules.length ?_ ?_
 ·exact ⟨0, rfl, rfl, rfl, rfl, Nat.zero_le _, rfl, by simp⟩
 rintro k ⟨f, n', H'⟩ ⟨i, rfl, rfl, f1, f3, hi, rfl, hall⟩ ih
 simp only at f1 f3 ih hr hb
 by_cases hir : i < g.rules.length
 ·obtain ⟨x, k, cs, ty, own, p, rfl, hx, c0, c1, c2, hp⟩ := hr.at hir
  by_cases h8 : (8 : Int) < g.rules[i].right.length
  ·repeat (first | refine qqm rfl ?_ | ((first | refine qqr ?_ | refine qqt ?_); simp only [SS, qx0, simprocAttr, f1, f3, hb, gc_2, hir, hx, c1, h8, ff_8]))
   (first | refine WK.retNil ⟨Or.inr rfl, _, rfl, ?_, ?_⟩ | refine WK.skipNil ⟨Or.inl rfl, _, rfl, ?_, ?_⟩)
   ·exact hk.keep
   ·simp only [packed, fset_apply, Nat.reduceEqDiff, ↓reduceIte, List.getD_cons_zero, List.getD_cons_succ, few, ff_8]
    have : g.rules.all (fun r => decide (r.right.length ≤ 8)) = false := by
     rw [List.all_eq_false]; exact ⟨g.rules[i], List.getElem_mem hir, by simp; omega⟩
    rw [this]; simp
  ·repeat (first | refine qqm rfl ?_ | ((first | refine qqr ?_ | refine qqt ?_); simp only [SS, qx0, simprocAttr, f1, f3, hb, gc_2, hir, hx, c1, h8, ff_8]))
   refine ih (g.rules.length - (i + 1)) (by omega) _ ⟨i + 1, rfl, rfl, f1, ?_, hir, rfl, ?_⟩
   ·simp only [packed, fset_apply, Nat.reduceEqDiff, ↓reduceIte, List.getD_cons_zero, List.getD_cons_succ, ff_8]
    have := wg.rules; unfold maxL at this
    rw [wrap_in (by omega) (by omega)]; rfl
   ·intro r hr'
    rw [List.take_succ_eq_append_getElem hir, List.mem_append] at hr'
    rcases hr' with hr' | hr'
    ·exact hall r hr'
    ·simp at hr'; subst hr'; omega
 ·repeat (first | refine qqm rfl ?_ | ((first | refine qqr ?_ | refine qqt ?_); simp only [SS, qx0, simprocAttr, f1, f3, hb, gc_2, hir, ff_8]))
  (first | refine WK.retNil ⟨Or.inr rfl, _, rfl, ?_, ?_⟩ | refine WK.skipNil ⟨Or.inl rfl, _, rfl, ?_, ?_⟩)
  ·exact hk.keep
  ·simp only [packed, fset_apply, Nat.reduceEqDiff, ↓reduceIte, List.getD_cons_zero, List.getD_cons_succ, few, ff_8]
   rw [List.take_of_length_le (by omega)] at hall
   have : g.rules.all (fun r => decide (r.right.length ≤ 8)) = true := by
    rw [List.all_eq_true]; exact fun r hr => by simpa using hall r hr
   rw [this]; simp; omega
end Go.Proofs.Ytemkglelfeidhaa

namespace Go.Proofs.Ytemkglelfeidhaa
open Go.AM Go.AM.Fo Go.RowKit
set_option maxRecDepth 100000
theorem ok_inG {g : Gram} (h : RightOK g) : InG g where
 left0 := fun r hr => by obtain ⟨i, hi, rfl⟩ := List.getElem_of_mem hr; exact (h.rule i hi).left0
 left1 := fun r hr => by obtain ⟨i, hi, rfl⟩ := List.getElem_of_mem hr; exact (h.rule i hi).left1
 right := fun r hr s hs => by obtain ⟨i, hi, rfl⟩ := List.getElem_of_mem hr; exact ((h.rule i hi).sym s hs).1
 rightT := fun r hr s hs => by obtain ⟨i, hi, rfl⟩ := List.getElem_of_mem hr; exact ((h.rule i hi).sym s hs).2
theorem ok_up {g : Gram} (h : RightOK g) : ∀ i j (hi : i < g.rules.length) (hj : j < g.rules.length), i ≤ j → g.rules[i].left ≤ g.rules[j].left := by
  intro i j hi hj hij
  induction j with
  | zero => have : i = 0 := by omega
            subst this; exact Int.le_refl _
  | succ j ih =>
    by_cases e : i = j + 1
    · subst e; exact Int.le_refl _
    · exact Int.le_trans (ih (by omega) (by omega)) ((h.rule (j + 1) hj).up j rfl _ (List.getElem?_eq_getElem (by omega)))
theorem ok_sgm {g : Gram} (h : RightOK g) (hf : few g = true) : Sgm g := by
 unfold few at hf
 simp only [Bool.and_eq_true, decide_eq_true_eq, List.all_eq_true] at hf
 exact ⟨ok_inG h, hf.1.2, hf.1.1.1, hf.2, hf.1.1.2, ok_up h⟩
theorem dv_yield {g : Gram} (hg : InG g) {d w : List Int} (h : Dv g [0] d w) (hl : d.length ≤ 4096) : yieldS g [0] d = (w, 0) := by
 have hr := h.replay hg [] [] [] 0 (fun s hs => by cases hs)
 simp only [List.nil_append, List.append_nil, replayS] at hr
 have eL : replayL g [0] d = (trm w, 0, 0) := by unfold replayL; rw [if_neg (by omega)]; exact hr
 have hn := trm_neg (h.pos hg)
 obtain ⟨e1, e2⟩ := tw_all hn
 have hp : leadP (trm w) = -1 := by unfold leadP; rw [e2, if_pos rfl]
 have hv : leadV (trm w) = w := by unfold leadV; rw [e1]; exact trm_trm w
 unfold yieldS
 rw [eL, if_pos rfl, if_neg (by rw [hp]; decide), hv]
theorem less_self3 : ∀ a : List Int, less a a = false
 | [] => rfl
 | x :: a => by show (if x = x then less a a else decide (x < x)) = false; rw [if_pos rfl, less_self3 a]
theorem less_tri3 : ∀ a b : List Int, less a b = true ∨ a = b ∨ less b a = true
 | [], [] => .inr (.inl rfl)
 | [], _ :: _ => .inl rfl
 | _ :: _, [] => .inr (.inr rfl)
 | x :: a, y :: b => by
  show (if x = y then less a b else decide (x < y)) = true ∨ _ ∨ (if y = x then less b a else decide (y < x)) = true
  by_cases e : x = y
  ·subst e
   rw [if_pos rfl, if_pos rfl]
   rcases less_tri3 a b with h | h | h
   ·exact .inl h
   ·exact .inr (.inl (by rw [h]))
   ·exact .inr (.inr h)
  ·rw [if_neg e, if_neg (fun h => e h.symm)]
   rcases Int.lt_or_gt_of_ne e with h | h
   ·exact .inl (by simpa using h)
   ·exact .inr (.inr (by simpa using h))
theorem same_iff3 {a b : List Int} : same a b = true ↔ a = b := by
 unfold same
 constructor
 ·intro h
  simp only [Bool.and_eq_true, Bool.not_eq_true'] at h
  rcases less_tri3 a b with h1 | h1 | h1
  ·rw [h.1] at h1; cases h1
  ·exact h1
  ·rw [h.2] at h1; cases h1
 ·rintro rfl; rw [less_self3]; rfl
end Go.Proofs.Ytemkglelfeidhaa

namespace Go.Proofs.Ytemkglelfeidhaa
open Go.AM Go.AM.Fo Go.RowKit
set_option maxRecDepth 100000
def sumsG : Gram := ⟨[⟨#[97]⟩, ⟨#[98]⟩], [⟨#[115]⟩], [⟨0, [0, -1, 0], 0⟩, ⟨0, [-2], 0⟩]⟩
theorem sums_wg : WG sumsG where
 terms := by unfold sumsG maxL; simp
 vars := by unfold sumsG maxL; simp
 rules := by unfold sumsG maxL; simp
 left := by unfold sumsG inI; simp
 right := by unfold sumsG inI maxL; simp
 weight := fun r hr => by
  have : r = ⟨0, [0, -1, 0], 0⟩ ∨ r = ⟨0, [-2], 0⟩ := by simpa [sumsG] using hr
  rcases this with rfl | rfl <;> exact Nat.pow_pos (by omega)
 size := fun s hs => by
  have h : s = ⟨#[97]⟩ ∨ s = ⟨#[98]⟩ ∨ s = ⟨#[115]⟩ := by simpa [sumsG] using hs
  rcases h with rfl | rfl | rfl <;> exact Nat.le_of_ble_eq_true rfl
theorem sums_ok : RightOK sumsG where
 vars1 := by decide
 vars := by decide
 terms := by decide
 rules := by decide
 rule := fun i h => by
  have h2 : i < 2 := h
  rcases (by omega : i = 0 ∨ i = 1) with rfl | rfl
  ·show RuleOK sumsG 0 ⟨0, [0, -1, 0], 0⟩
   exact ⟨by decide, by decide, by decide, by decide, fun q e => by omega⟩
  ·show RuleOK sumsG 1 ⟨0, [-2], 0⟩
   refine ⟨by decide, by decide, by decide, by decide, fun q e r' hr => ?_⟩
   obtain rfl : q = 0 := by omega
   cases hr
   decide
 count := fun v hv => by
  have h2 : v < 1 := hv
  obtain rfl : v = 0 := by omega
  decide
theorem sums_sgm : Sgm sumsG := ok_sgm sums_ok (by decide)
theorem sums_s : Sums sumsG := ⟨rfl⟩
theorem load_gr {H : Heap} {x : Nat} {cs : List Value} {ty : TypeId} {own : Bool} (h : H x = .cells cs ty own) (hl : cs.length = 3) : (aload Try.prog 25 H (.pointer (some ⟨x, 0, none⟩))) = some { v := .agg cs.toArray, rd := [x] } := by
 have h1 : aggT Try.prog 25 = some true := by kernel_rfl
 have h2 : Try.prog.cellsOf 25 = 3 := by kernel_rfl
 unfold aload
 simp only [h, h1, h2]
 rw [if_pos (by omega), List.drop_zero, List.take_of_length_le (by omega)]
theorem res_gr {f : Fr} {n : Nat} {H : Heap} {x : Nat} {cs : List Value} {ty : TypeId} {own : Bool} (hf : f 0 = .pointer (some ⟨x, 0, none⟩)) (h : H x = .cells cs ty own) (hl : cs.length = 3) : aresultsL Try.prog ⟨f, n, H⟩ Try.f19.results.toList = some [.agg cs.toArray] := by
 have e : Try.f19.results.toList = [.cell 0 25] := rfl
 rw [e]
 unfold aresultsL aresult
 simp only [hf, load_gr h hl]
 rfl
set_option maxHeartbeats 4000000 in
theorem sums_gives {n : Nat} {H : Heap} : Gives Try.prog 19 [] n H fun v n' H' => RG H' v sumsG := by
 refine Gives.of orders ok19 (Nat.le_of_ble_eq_true rfl) ?_
 have r2 : ∀ z, rep 2 z = z ++ (z ++ []) := fun _ => rfl
 have r3 : ∀ z, rep 3 z = z ++ (z ++ (z ++ [])) := fun _ => rfl
 have v1 : ∀ a b c : Option Addr, ∀ k l m k' l' m' : Nat, vcells (.agg #[Value.slice a k k', .slice b l l', .slice c m m']) = [.slice a k k', .slice b l l', .slice c m m'] := fun _ _ _ _ _ _ _ _ _ => rfl
 have v2 : ∀ (a : Int) (p : Option Addr) (k l w : Nat), vcells (.agg #[Value.int .i64 a, .slice p k l, .float .f64 w]) = [.int .i64 a, .slice p k l, .float .f64 w] := fun _ _ _ _ _ => rfl
 have v3 : ∀ (p : Option Addr) (k l : Nat), vcells (.slice p k l) = [.slice p k l] := fun _ _ _ => rfl
 repeat (first | refine qqm rfl ?_ | ((first | refine qqr ?_ | refine qqt ?_); simp only [SS, qg0, qgs, qga, qge, Go.AM.splice, one, tbuild, simprocAttr, hset_at, r2, r3, v1, v2, v3, List.length_cons, List.length_nil, List.set_cons_zero, List.set_cons_succ, List.cons_append, List.nil_append, List.take_succ_cons, List.take_zero, List.drop_succ_cons, List.drop_zero, List.drop_nil, List.append_nil, ff_19]))
 have l6 : ∀ (a b c : Value), 3 ≤ [a, b, c].length := fun _ _ _ => Nat.le_refl 3
 have qn : ∀ (k : Nat), n < k → ∀ (H : Heap) ob, hset H k ob n = H n := fun k hk H ob => hset_ne _ _ _ (by omega)
 have h1 := qn (n + 1) (by omega)
 have h2 := qn (n + 1 + 1) (by omega)
 have h3 := qn (n + 1 + 1 + 1) (by omega)
 have h4 := qn (n + 1 + 1 + 1 + 1) (by omega)
 have h5 := qn (n + 1 + 1 + 1 + 1 + 1) (by omega)
 simp only [SS, qg0, qgs, qga, qge, Go.AM.splice, one, tbuild, simprocAttr, h1, h2, h3, h4, h5, hset_at, l6, List.set_cons_zero, List.set_cons_succ, ff_19]
 repeat refine qqn rfl ?_
 refine WK.retNil ⟨Or.inr rfl, _, res_gr (x := n) ?_ (hset_at _ _ _) rfl, fun z hz => ?_, ?_⟩
 ·simp only [packed, fset_apply, Nat.reduceEqDiff, ↓reduceIte, List.getD_cons_zero, List.getD_cons_succ, ff_19]
 ·exact (hset_ne _ _ _ (by omega)).trans ((hset_ne _ _ _ (by omega)).trans ((hset_ne _ _ _ (by omega)).trans ((hset_ne _ _ _ (by omega)).trans ((hset_ne _ _ _ (by omega)).trans ((hset_ne _ _ _ (by omega)).trans (hset_ne _ _ _ (by omega)))))))
 ·refine ⟨some ⟨n + 1, 0, none⟩, some ⟨n + 1 + 1, 0, none⟩, some ⟨n + 1 + 1 + 1 + 1 + 1, 0, none⟩, rfl, fun _ => ⟨n + 1, 0, [.string ⟨#[97]⟩, .string ⟨#[98]⟩], 9, true, rfl, ?_, fun i y e => ?_⟩, fun _ => ⟨n + 1 + 1, 0, [.string ⟨#[115]⟩], 9, true, rfl, ?_, fun i y e => ?_⟩, fun _ => ⟨n + 1 + 1 + 1 + 1 + 1, 0, [.int .i64 (Int.ofNat 0), .slice (some ⟨n + 1 + 1 + 1, 0, none⟩) 3 3, .float .f64 0, .int .i64 (Int.ofNat 0), .slice (some ⟨n + 1 + 1 + 1 + 1, 0, none⟩) 1 1, .float .f64 0], 49, true, rfl, ?_, fun i r e => ?_⟩⟩
  ·exact (hset_ne _ _ _ (by omega)).trans ((hset_ne _ _ _ (by omega)).trans ((hset_ne _ _ _ (by omega)).trans ((hset_ne _ _ _ (by omega)).trans ((hset_ne _ _ _ (by omega)).trans (hset_at _ _ _)))))
  ·match i, e with
   | 0, e => cases e; rfl
   | 1, e => cases e; rfl
  ·exact (hset_ne _ _ _ (by omega)).trans ((hset_ne _ _ _ (by omega)).trans ((hset_ne _ _ _ (by omega)).trans ((hset_ne _ _ _ (by omega)).trans (hset_at _ _ _))))
  ·match i, e with
   | 0, e => cases e; rfl
  ·exact (hset_ne _ _ _ (by omega)).trans (hset_at _ _ _)
  ·match i, e with
   | 0, e =>
    cases e
    refine ⟨some ⟨n + 1 + 1 + 1, 0, none⟩, rfl, rfl, rfl, .inr ⟨n + 1 + 1 + 1, 0, [.int .i64 0, .int .i64 (-1), .int .i64 0], 3, true, rfl, ?_, Nat.le_refl 3, fun j y e => ?_⟩⟩
    ·exact (hset_ne _ _ _ (by omega)).trans ((hset_ne _ _ _ (by omega)).trans ((hset_ne _ _ _ (by omega)).trans (hset_at _ _ _)))
    ·match j, e with
     | 0, e => cases e; rfl
     | 1, e => cases e; rfl
     | 2, e => cases e; rfl
   | 1, e =>
    cases e
    refine ⟨some ⟨n + 1 + 1 + 1 + 1, 0, none⟩, rfl, rfl, rfl, .inr ⟨n + 1 + 1 + 1 + 1, 0, [.int .i64 (-2)], 3, true, rfl, ?_, Nat.le_refl 1, fun j y e => ?_⟩⟩
    ·exact (hset_ne _ _ _ (by omega)).trans ((hset_ne _ _ _ (by omega)).trans (hset_at _ _ _))
    ·match j, e with
     | 0, e => cases e; rfl
end Go.Proofs.Ytemkglelfeidhaa
