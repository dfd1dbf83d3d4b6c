/- A part of a proof. Its conditions: none. -/
import Derived.Test.YtihjaobjhmmboaaGreatDoorAmUGRight
import Derived.Test.YtihjaobjhmmboaaGreatDoorAmULfNullable
import Derived.Test.YtihjaobjhmmboaaGreatDoorAmULfRef09
set_option linter.all false
namespace Go.Proofs.YtihjaobjhmmboaaGreatDoor
open Go.AM
set_option maxRecDepth 100000
structure RulesOK (g : Gram) : Prop where
 terms : g.terms.length ≤ 64
 rules : g.rules.length ≤ 256
 left : ∀ r ∈ g.rules, 0 ≤ r.left ∧ r.left < g.vars.length
 len : ∀ r ∈ g.rules, r.right.length ≤ 24
 sym : ∀ r ∈ g.rules, ∀ s ∈ r.right, s < g.vars.length ∧ (s < 0 → -s - 1 < g.terms.length)
 told : ∀ r ∈ g.rules, toldB r.weight
end Go.Proofs.YtihjaobjhmmboaaGreatDoor

namespace Go.Proofs.YtihjaobjhmmboaaGreatDoor
open Go.AM
set_option maxRecDepth 100000
set_option maxHeartbeats 2000000 in
theorem lexName_true (s : ByteArray) (nb : NB s) (n : Nat) (H : Heap) : Gives Tryz.prog 71 [.string s] n H fun v n' H' => v = .bool true ∧ n' = n ∧ H' = H := by
  obtain ⟨hs, ⟨hs0, hl⟩, hin⟩ := nb
  refine Gives.of orders ok71 (Nat.le_of_ble_eq_true rfl) ?_
  repeat (first | refine qqm rfl ?_ | ((first | refine qqr ?_ | refine qqt ?_); simp only [SS, qx2, vun, simprocAttr, ff_71]))
  refine WK.loop (fun k s' => ∃ i, s'.n = n ∧ s'.H = H ∧ s'.f 0 = .string s ∧ s'.f 5 = .int .i64 (s.size : Nat) ∧ s'.f 6 = .int .i64 (i : Nat) ∧ i ≤ s.size ∧ k = s.size - i) s.size ?_ ?_
  · exact ⟨0, rfl, rfl, rfl, rfl, rfl, Nat.zero_le _, rfl⟩
  rintro k ⟨f, n', H'⟩ ⟨i, rfl, rfl, f0, f5, f6, hi, rfl⟩ ih
  simp only at f0 f5 f6 ih
  by_cases hi : i < s.size
  · have ei : s[i]? = some s[i] := bget hi
    have hiw : IntKind.i64.wrap ((i : Int) + 1) = ((i + 1 : Nat) : Int) := by rw [wrap_in (by omega) (by omega)]; rfl
    repeat (first | refine qqm rfl ?_ | ((first | refine qqr ?_ | refine qqt ?_); simp only [SS, qx2, vun, simprocAttr, f0, f5, f6, hi, ei, ff_71]))
    refine AtCall.by (lexLetter_gives _ _ _) ?_
    rintro v n' H' hk ⟨rfl, rfl, rfl⟩
    have next : ∀ f' : Fr, f' 0 = .string s → f' 5 = .int .i64 (s.size : Nat) → f' 6 = .int .i64 ((i + 1 : Nat) : Nat) → _ := fun f' g0 g5 g6 => ih (s.size - (i + 1)) (by omega) ⟨f', n', H'⟩ ⟨i + 1, rfl, rfl, g0, g5, g6, hi, rfl⟩
    cases h4 : letter s[i].toNat
    · by_cases h0 : i = 0
      · subst h0; rw [hl] at h4; cases h4
      have h0' : ((i : Int) = 0) = False := by simp [h0]
      simp only [SS, qx2, vun, simprocAttr, f0, f5, f6, h0', ei, ff_71]
      refine AtCall.by (lexDigit_gives _ _ _) ?_
      rintro v n' H' hk ⟨rfl, rfl, rfl⟩
      cases h5 : digit s[i].toNat
      · have h6 : (s[i].toNat : Int) = 95 := by
          have := hin i hi
          simpa only [inner, h4, h5, Bool.false_or, decide_eq_true_eq] using this
        simp only [SS, qx2, vun, simprocAttr, f0, f5, f6, ei, h6, ff_71]
        repeat (first | refine qqm rfl ?_ | ((first | refine qqr ?_ | refine qqt ?_); simp only [SS, qx2, vun, simprocAttr, f0, f5, f6, hiw, ff_71]))
        exact next _ f0 f5 rfl
      · simp only [SS, qx2, vun, simprocAttr, f0, f5, f6, ei, ff_71]
        repeat (first | refine qqm rfl ?_ | ((first | refine qqr ?_ | refine qqt ?_); simp only [SS, qx2, vun, simprocAttr, f0, f5, f6, hiw, ff_71]))
        exact next _ f0 f5 rfl
    · simp only [SS, qx2, vun, simprocAttr, f0, f5, f6, ff_71]
      repeat (first | refine qqm rfl ?_ | ((first | refine qqr ?_ | refine qqt ?_); simp only [SS, qx2, vun, simprocAttr, f0, f5, f6, hiw, ff_71]))
      exact next _ f0 f5 rfl
  · have h1 : (1 : Int) ≤ s.size := by omega
    have h2 : (s.size : Int) ≤ 24 := by omega
    repeat (first | refine qqm rfl ?_ | ((first | refine qqr ?_ | refine qqt ?_); simp only [SS, qx2, vun, simprocAttr, f0, f5, f6, hi, h1, h2, decide_true, ff_71]))
    first | refine qqf ?_ ?_ | refine qqg ?_ ?_
    · exact fun _ _ => rfl
    · simp only [packed, qv, Nat.reduceEqDiff, ↓reduceIte, ff_71]
      simp
set_option maxHeartbeats 2000000 in
theorem lexQuote_true (s : ByteArray) (qb : QB s) (n : Nat) (H : Heap) : Gives Tryz.prog 73 [.string s] n H fun v n' H' => v = .bool true ∧ n' = n ∧ H' = H := by
 obtain ⟨hs0, hs, hin⟩ := qb
 refine Gives.of orders ok73 (Nat.le_of_ble_eq_true rfl) ?_
 repeat (first | refine qqm rfl ?_ | ((first | refine qqr ?_ | refine qqt ?_); simp only [SS, qx2, simprocAttr, ff_73]))
 refine WK.loop (fun k s' => ∃ i, s'.n = n ∧ s'.H = H ∧ s'.f 0 = .string s ∧ s'.f 5 = .int .i64 (s.size : Nat) ∧ s'.f 6 = .int .i64 (i : Nat) ∧ i ≤ s.size ∧ k = s.size - i) s.size ?_ ?_
 ·exact ⟨0, rfl, rfl, rfl, rfl, rfl, Nat.zero_le _, rfl⟩
 rintro k ⟨f, n', H'⟩ ⟨i, rfl, rfl, f0, f5, f6, hi, rfl⟩ ih
 simp only at f0 f5 f6 ih
 by_cases hi : i < s.size
 ·have ei : s[i]? = some s[i] := bget hi
  have hiw : IntKind.i64.wrap ((i : Int) + 1) = ((i + 1 : Nat) : Int) := by rw [wrap_in (by omega) (by omega)]; rfl
  have next : ∀ f' : Fr, f' 0 = .string s → f' 5 = .int .i64 (s.size : Nat) → f' 6 = .int .i64 ((i + 1 : Nat) : Nat) → _ := fun f' g0 g5 g6 => ih (s.size - (i + 1)) (by omega) ⟨f', n', H'⟩ ⟨i + 1, rfl, rfl, g0, g5, g6, hi, rfl⟩
  have hq := hin i hi
  simp only [quotable, Bool.and_eq_true, decide_eq_true_eq, Bool.not_eq_true', decide_eq_false_iff_not] at hq
  have h1 : ¬ (s[i].toNat : Int) < 32 := by omega
  have h2 : ¬ (126 : Int) < (s[i].toNat : Int) := by omega
  have h3 : ¬ (s[i].toNat : Int) = 39 := hq.2
  repeat (first | refine qqm rfl ?_ | ((first | refine qqr ?_ | refine qqt ?_); simp only [SS, qx2, simprocAttr, f0, f5, f6, hi, ei, h1, h2, h3, hiw, ff_73]))
  exact next _ f0 f5 rfl
 ·have h1 : (1 : Int) ≤ s.size := by omega
  have h2 : (s.size : Int) ≤ 16 := by omega
  repeat (first | refine qqm rfl ?_ | ((first | refine qqr ?_ | refine qqt ?_); simp only [SS, qx2, simprocAttr, f0, f5, f6, hi, h1, h2, decide_true, ff_73]))
  first | refine qqf ?_ ?_ | refine qqg ?_ ?_
  ·exact fun _ _ => rfl
  ·simp only [packed, qv, Nat.reduceEqDiff, ↓reduceIte, ff_73]
   simp
end Go.Proofs.YtihjaobjhmmboaaGreatDoor

namespace Go.Proofs.YtihjaobjhmmboaaGreatDoor
open Go.AM
set_option maxRecDepth 100000
theorem indexS_false {p : Option Addr} {l : List ByteArray} {s : ByteArray} {n : Nat} {H : Heap} (h : RA Value.string H p l) (hl : l.length ≤ maxL) (hno : ∀ y ∈ l, (s.toList == y.toList) = false) :
  Gives Tryz.prog 87 [.slice p l.length l.length, .string s] n H fun v n' H' => v = .int .i64 (-1) ∧ n' = n ∧ H' = H := by
 refine Gives.of orders ok87 (Nat.le_of_ble_eq_true rfl) ?_
 repeat (first | refine qqm rfl ?_ | ((first | refine qqr ?_ | refine qqt ?_); simp only [SS, qx9, simprocAttr, ff_87]))
 refine WK.loop (fun k s' => ∃ i, s'.n = n ∧ s'.H = H ∧ s'.f 0 = .slice p l.length l.length ∧ s'.f 1 = .string s ∧ s'.f 7 = .int .i64 (l.length : Nat) ∧ s'.f 8 = .int .i64 (i : Nat) ∧ i ≤ l.length ∧ k = l.length - i) l.length ?_ ?_
 ·exact ⟨0, rfl, rfl, rfl, rfl, rfl, rfl, Nat.zero_le _, rfl⟩
 rintro k ⟨f, n', H'⟩ ⟨i, rfl, rfl, f0, f1, f7, f8, hi, rfl⟩ ih
 simp only at f0 f1 f7 f8 ih h
 by_cases hi : i < l.length
 ·obtain ⟨x, k, cs, ty, own, rfl, hx, e⟩ := h.at hi
  have hiw : IntKind.i64.wrap ((i : Int) + 1) = ((i + 1 : Nat) : Int) := by unfold maxL at hl; rw [wrap_in (by omega) (by omega)]; rfl
  have he := hno _ (List.getElem_mem hi)
  ·repeat (first | refine qqm rfl ?_ | ((first | refine qqr ?_ | refine qqt ?_); simp only [SS, qx9, simprocAttr, f0, f1, f7, f8, hi, hx, e, he, hiw, ff_87]))
   exact ih (l.length - (i + 1)) (by omega) _ ⟨i + 1, rfl, rfl, f0, f1, f7, rfl, hi, rfl⟩
 ·repeat (first | refine qqm rfl ?_ | ((first | refine qqr ?_ | refine qqt ?_); simp only [SS, qx9, simprocAttr, f0, f1, f7, f8, hi, ff_87]))
  first | refine qqf ?_ ?_ | refine qqg ?_ ?_
  ·exact fun _ _ => rfl
  ·simp only [packed, qv, Nat.reduceEqDiff, ↓reduceIte, ff_87]
   all_goals simp
theorem containsS_false {p : Option Addr} {l : List ByteArray} {s : ByteArray} {n : Nat} {H : Heap} (h : RA Value.string H p l) (hl : l.length ≤ maxL) (hno : ∀ y ∈ l, (s.toList == y.toList) = false) :
  Gives Tryz.prog 72 [.slice p l.length l.length, .string s] n H fun v n' H' => v = .bool false ∧ n' = n ∧ H' = H := by
 refine Gives.of orders ok72 (Nat.le_of_ble_eq_true rfl) ?_
 repeat (first | refine qqm rfl ?_ | ((first | refine qqr ?_ | refine qqt ?_); simp only [SS, qx19, simprocAttr]))
 refine AtCall.by (indexS_false h hl hno) ?_
 rintro v n2 H2 k2 ⟨rfl, rfl, rfl⟩
 simp only [SS, qx19, simprocAttr]
 repeat (first | refine qqm rfl ?_ | ((first | refine qqr ?_ | refine qqt ?_); simp only [SS, qx19, simprocAttr]))
 first | refine qqf ?_ ?_ | refine qqg ?_ ?_
 ·exact fun _ _ => rfl
 ·simp only [packed, qv, Nat.reduceEqDiff, ↓reduceIte]
  all_goals simp
theorem indexB_false {p : Option Addr} {l : List Bool} {b : Bool} {n : Nat} {H : Heap} (h : RA Value.bool H p l) (hl : l.length ≤ maxL) (hno : ∀ y ∈ l, (b == y) = false) :
  Gives Tryz.prog 75 [.slice p l.length l.length, .bool b] n H fun v n' H' => v = .int .i64 (-1) ∧ n' = n ∧ H' = H := by
 refine Gives.of orders ok75 (Nat.le_of_ble_eq_true rfl) ?_
 repeat (first | refine qqm rfl ?_ | ((first | refine qqr ?_ | refine qqt ?_); simp only [SS, qx9, simprocAttr, ff_75]))
 refine WK.loop (fun k s' => ∃ i, s'.n = n ∧ s'.H = H ∧ s'.f 0 = .slice p l.length l.length ∧ s'.f 1 = .bool b ∧ s'.f 7 = .int .i64 (l.length : Nat) ∧ s'.f 8 = .int .i64 (i : Nat) ∧ i ≤ l.length ∧ k = l.length - i) l.length ?_ ?_
 ·exact ⟨0, rfl, rfl, rfl, rfl, rfl, rfl, Nat.zero_le _, rfl⟩
 rintro k ⟨f, n', H'⟩ ⟨i, rfl, rfl, f0, f1, f7, f8, hi, rfl⟩ ih
 simp only at f0 f1 f7 f8 ih h
 by_cases hi : i < l.length
 ·obtain ⟨x, k, cs, ty, own, rfl, hx, e⟩ := h.at hi
  have hiw : IntKind.i64.wrap ((i : Int) + 1) = ((i + 1 : Nat) : Int) := by unfold maxL at hl; rw [wrap_in (by omega) (by omega)]; rfl
  have he := hno _ (List.getElem_mem hi)
  ·repeat (first | refine qqm rfl ?_ | ((first | refine qqr ?_ | refine qqt ?_); simp only [SS, qx9, simprocAttr, f0, f1, f7, f8, hi, hx, e, he, hiw, ff_75]))
   exact ih (l.length - (i + 1)) (by omega) _ ⟨i + 1, rfl, rfl, f0, f1, f7, rfl, hi, rfl⟩
 ·repeat (first | refine qqm rfl ?_ | ((first | refine qqr ?_ | refine qqt ?_); simp only [SS, qx9, simprocAttr, f0, f1, f7, f8, hi, ff_75]))
  first | refine qqf ?_ ?_ | refine qqg ?_ ?_
  ·exact fun _ _ => rfl
  ·simp only [packed, qv, Nat.reduceEqDiff, ↓reduceIte, ff_75]
   all_goals simp
theorem containsB_false {p : Option Addr} {l : List Bool} {b : Bool} {n : Nat} {H : Heap} (h : RA Value.bool H p l) (hl : l.length ≤ maxL) (hno : ∀ y ∈ l, (b == y) = false) :
  Gives Tryz.prog 53 [.slice p l.length l.length, .bool b] n H fun v n' H' => v = .bool false ∧ n' = n ∧ H' = H := by
 refine Gives.of orders ok53 (Nat.le_of_ble_eq_true rfl) ?_
 repeat (first | refine qqm rfl ?_ | ((first | refine qqr ?_ | refine qqt ?_); simp only [SS, qx19, simprocAttr]))
 refine AtCall.by (indexB_false h hl hno) ?_
 rintro v n2 H2 k2 ⟨rfl, rfl, rfl⟩
 simp only [SS, qx19, simprocAttr]
 repeat (first | refine qqm rfl ?_ | ((first | refine qqr ?_ | refine qqt ?_); simp only [SS, qx19, simprocAttr]))
 first | refine qqf ?_ ?_ | refine qqg ?_ ?_
 ·exact fun _ _ => rfl
 ·simp only [packed, qv, Nat.reduceEqDiff, ↓reduceIte]
  all_goals simp
set_option maxHeartbeats 8000000 in
theorem gnames_true {pt pv pr : Option Addr} {g : Gram} {n : Nat} {H : Heap} (hw : WF n H) (ht : RA Value.string H pt g.terms) (hv : RA Value.string H pv g.vars) (hvo : g.vars ≠ [] → Fgn H pv) (wg : WG g) (G : GoodG NB QB LTB toldB g) :
  Gives Tryz.prog 49 [.agg (gcells pt pv pr g).toArray] n H fun v _ _ => v = .bool true := by
 refine Gives.of orders ok49 (Nat.le_of_ble_eq_true rfl) ?_
 have k1 := Kp.new n H (.cells (gcells pt pv pr g) 25 true)
 have hb := hset_at H n (.cells (gcells pt pv pr g) 25 true)
 have ht1 := ht.mono hw k1
 have hv1 := hv.mono hw k1
 have hw1 := k1.wf hw
 have hwt := wg.terms
 have hwv := wg.vars
 unfold maxL at hwt hwv
 repeat refine qqn rfl ?_
 (refine qqr ?_; simp only [SS, qx7, vun, simprocAttr, box_cells, box_one, ff_49])
 generalize hset H n (.cells (gcells pt pv pr g) 25 true) = H1 at *
 have c1 : ¬ (g.vars.length : Int) < 1 := by have := G.vars1; omega
 have c2 : ¬ (64 : Int) < (g.vars.length : Int) := by have := G.vars; omega
 have c3 : ¬ (64 : Int) < (g.terms.length : Int) := by have := G.terms; omega
 repeat (first | refine qqm rfl ?_ | ((first | refine qqr ?_ | refine qqt ?_); simp only [SS, qx7, vun, simprocAttr, hb, gc_0, gc_1, gc_len, c1, c2, c3, ff_49]))
 have hsz : isz Tryz.prog 9 = some 1 := by kernel_rfl
 replace hvo := hvo (by intro e; rw [e] at c1; simp at c1)
 have hvo1 : Fgn H1 pv := fun x k' cs ty own e1 e2 => by
  have hx : x < n := Classical.byContradiction fun hc => by
   obtain ⟨x', k2, cs', ty', own', f1, f2, _⟩ := hv (by intro e; rw [e] at c1; simp at c1)
   rw [f1] at e1
   cases e1
   rw [hw x (by omega)] at f2; cases f2
  exact hvo x k' cs ty own e1 (by rw [← k1.keep x hx]; exact e2)
 refine WK.loop (fun k s => ∃ i : Nat, s.n = n + 1 ∧ s.H = H1 ∧ s.f 1 = .pointer (some ⟨n, 0, none⟩) ∧ s.f 24 = .slice pv g.vars.length g.vars.length ∧ s.f 25 = .int .i64 (g.vars.length : Nat) ∧ s.f 26 = .int .i64 (i : Nat) ∧ i ≤ g.vars.length ∧ k = g.vars.length - i) g.vars.length ?_ ?_
 ·exact ⟨0, rfl, rfl, rfl, rfl, rfl, rfl, Nat.zero_le _, rfl⟩
 rintro kk ⟨f, n2, H2⟩ ⟨i, rfl, rfl, f1, f24, f25, f26, hi, rfl⟩ ih
 simp only at f1 f24 f25 f26 hb ht1 hv1 hw1 hvo1 k1 ih
 by_cases hlt : i < g.vars.length
 ·obtain ⟨x, k, cs, ty, own, rfl, hx, e⟩ := hv1.at hlt
  have hoz : (own = true → isz Tryz.prog ty = some 1) = True := eq_true (hvo1 _ _ _ _ _ rfl hx)
  have hs := wg.size g.vars[i] (List.mem_append_right _ (List.getElem_mem hlt))
  have hiw : IntKind.i64.wrap ((i : Int) + 1) = ((i + 1 : Nat) : Int) := by rw [wrap_in (by omega) (by omega)]; rfl
  repeat (first | refine qqm rfl ?_ | ((first | refine qqr ?_ | refine qqt ?_); simp only [SS, qx7, vun, simprocAttr, f1, f24, f25, f26, hlt, hx, e, ff_49]))
  refine AtCall.by (lexName_true _ (G.names _ (List.getElem_mem hlt)) _ _) ?_
  rintro v n3 H3 k3 ⟨rfl, rfl, rfl⟩
  ·have hil : i ≤ g.vars.length := hi
   have hct := containsS_false (p := some ⟨x, k, none⟩) (l := g.vars.take i) (s := g.vars[i]) (n := n + 1) (fun hne => ⟨x, k, cs, ty, own, rfl, hx, fun j y e => by
    obtain ⟨x', k', cs', ty', own', f1, f2, f3⟩ := hv1 (by intro e0; rw [e0] at hlt; simp at hlt)
    cases f1
    rw [hx] at f2
    cases f2
    rw [List.getElem?_take] at e
    split at e
    ·exact f3 j y e
    ·cases e⟩) (by unfold maxL; rw [List.length_take]; omega) (fun y hy => by
    obtain ⟨j, hj, rfl⟩ := List.getElem_of_mem hy
    rw [List.length_take] at hj
    rw [List.getElem_take]
    have := List.pairwise_iff_getElem.1 G.uniq j i (by omega) hlt (by omega)
    simpa using fun e => this e.symm)
   rw [List.length_take, Nat.min_eq_left hi] at hct
   simp only [SS, qx7, vun, simprocAttr, f1, f26, hb, gc_1, gc_len, hx, hil, hoz, Nat.zero_le, Nat.sub_zero, Nat.zero_mul, Nat.add_zero, and_self, and_true, ff_49]
   refine AtCall.by hct ?_
   rintro v n4 H4 k4 ⟨rfl, rfl, rfl⟩
   ·simp only [SS, qx7, vun, simprocAttr, ff_49]
    repeat (first | refine qqm rfl ?_ | ((first | refine qqr ?_ | refine qqt ?_); simp only [SS, qx7, vun, simprocAttr, f26, hiw, ff_49]))
    exact ih (g.vars.length - (i + 1)) (by omega) _ ⟨i + 1, rfl, rfl, f1, f24, f25, rfl, hlt, rfl⟩
 ·repeat (first | refine qqm rfl ?_ | ((first | refine qqr ?_ | refine qqt ?_); simp only [SS, qx7, vun, simprocAttr, f1, f24, f25, f26, hlt, hb, gc_0, gc_len, ff_49]))
  clear ih f24 f25 f26
  refine WK.loop (fun k s => ∃ i : Nat, s.n = n + 1 ∧ s.H = H2 ∧ s.f 1 = .pointer (some ⟨n, 0, none⟩) ∧ s.f 44 = .slice pt g.terms.length g.terms.length ∧ s.f 45 = .int .i64 (g.terms.length : Nat) ∧ s.f 46 = .int .i64 (i : Nat) ∧ i ≤ g.terms.length ∧ k = g.terms.length - i) g.terms.length ?_ ?_
  ·exact ⟨0, rfl, rfl, f1, rfl, rfl, rfl, Nat.zero_le _, rfl⟩
  clear f1
  rintro kk ⟨f, n2, H3⟩ ⟨i, rfl, rfl, f1, f44, f45, f46, hi, rfl⟩ ih
  simp only at f1 f44 f45 f46 hb ht1 hv1 hw1 hvo1 k1 ih
  by_cases hlt : i < g.terms.length
  ·obtain ⟨x, k, cs, ty, own, rfl, hx, e⟩ := ht1.at hlt
   have hs := wg.size g.terms[i] (List.mem_append_left _ (List.getElem_mem hlt))
   have hiw : IntKind.i64.wrap ((i : Int) + 1) = ((i + 1 : Nat) : Int) := by rw [wrap_in (by omega) (by omega)]; rfl
   repeat (first | refine qqm rfl ?_ | ((first | refine qqr ?_ | refine qqt ?_); simp only [SS, qx7, vun, simprocAttr, f1, f44, f45, f46, hlt, hx, e, ff_49]))
   refine AtCall.by (lexQuote_true _ (G.quotes _ (List.getElem_mem hlt)) _ _) ?_
   rintro v n3 H4 k3 ⟨rfl, rfl, rfl⟩
   ·by_cases hj0 : (0 : Int) < i
    ·have hw' : IntKind.i64.wrap ((i : Int) - 1) = ((i - 1 : Nat) : Int) := by rw [wrap_in (by omega) (by omega)]; omega
     have hj' : i - 1 < g.terms.length := by omega
     obtain ⟨x', k', cs', ty', own', e', hx', e2⟩ := ht1.at hj'
     cases e'
     rw [hx] at hx'
     cases hx'
     have hL : (!Op.bytesLess g.terms[i - 1].toList g.terms[i].toList) = false := by
      have : LTB _ _ := List.pairwise_iff_getElem.1 G.rise (i - 1) i hj' hlt (by omega)
      unfold LTB at this
      rw [this]; rfl
     ·simp only [SS, qx7, vun, simprocAttr, f1, f46, hb, gc_0, gc_len, hlt, hx, e, hj0, hw', hj', e2, hL, ff_49]
      repeat (first | refine qqm rfl ?_ | ((first | refine qqr ?_ | refine qqt ?_); simp only [SS, qx7, vun, simprocAttr, hL, f46, hiw, ff_49]))
      exact ih (g.terms.length - (i + 1)) (by omega) _ ⟨i + 1, rfl, rfl, f1, f44, f45, rfl, hlt, rfl⟩
    ·simp only [SS, qx7, vun, simprocAttr, f1, f46, hb, gc_0, gc_len, hlt, hx, e, hj0, ff_49]
     repeat (first | refine qqm rfl ?_ | ((first | refine qqr ?_ | refine qqt ?_); simp only [SS, qx7, vun, simprocAttr, f46, hiw, ff_49]))
     exact ih (g.terms.length - (i + 1)) (by omega) _ ⟨i + 1, rfl, rfl, f1, f44, f45, rfl, hlt, rfl⟩
  ·repeat (first | refine qqm rfl ?_ | ((first | refine qqr ?_ | refine qqt ?_); simp only [SS, qx7, vun, simprocAttr, f1, f44, f45, f46, hlt, ff_49]))
   first | refine qqf ?_ ?_ | refine qqg ?_ ?_
   ·exact k1.keep
   ·simp only [packed, qv, Nat.reduceEqDiff, ↓reduceIte, ff_49]
end Go.Proofs.YtihjaobjhmmboaaGreatDoor

namespace Go.Proofs.YtihjaobjhmmboaaGreatDoor
open Go.AM Ieee
set_option maxRecDepth 100000
theorem drop_idem (p : UInt8 → Bool) (l : List UInt8) : (l.dropWhile p).dropWhile p = l.dropWhile p := by
 induction l with
 | nil => rfl
 | cons a l ih =>
  by_cases h : p a = true
  ·simp [h, ih]
  ·simp [h]
theorem trim_split (t : List UInt8) : ∃ z, t = trimZ t ++ List.replicate z 48 := by
 refine ⟨(t.reverse.takeWhile (· == 48)).length, ?_⟩
 have h1 : t.reverse = t.reverse.takeWhile (· == 48) ++ t.reverse.dropWhile (· == 48) := List.takeWhile_append_dropWhile.symm
 have h2 : t.reverse.takeWhile (· == 48) = List.replicate (t.reverse.takeWhile (· == 48)).length 48 := by
  refine List.eq_replicate_of_mem fun b hb => ?_
  have : ∀ l : List UInt8, ∀ b ∈ l.takeWhile (· == 48), b = 48 := by
   intro l
   induction l with
   | nil => intro b hb; simp at hb
   | cons a l ih =>
    intro b hb
    by_cases h : a = 48
    ·subst h
     simp only [List.takeWhile_cons, beq_self_eq_true, if_true, List.mem_cons] at hb
     rcases hb with rfl | hb
     ·rfl
     ·exact ih b hb
    ·simp [h] at hb
  exact this _ b hb
 have h3 := congrArg List.reverse h1
 rw [List.reverse_reverse, List.reverse_append] at h3
 rw [h2, List.reverse_replicate] at h3
 exact h3
theorem trim_idem (t : List UInt8) : trimZ (trimZ t) = trimZ t := by
 unfold trimZ
 rw [List.reverse_reverse, drop_idem]
theorem valL_zeros (l : List UInt8) (z : Nat) : valL (l ++ List.replicate z 48) = valL l * 10 ^ z := by
 induction z with
 | zero => simp
 | succ z ih =>
  have t48 : UInt8.toNat 48 - 48 = 0 := rfl
  rw [List.replicate_succ', ← List.append_assoc, valL_snoc, ih, Nat.pow_succ, t48, Nat.add_zero, Nat.mul_comm 10, Nat.mul_assoc]
theorem trim_facts {t : List UInt8} (ht : t.all isD = true) (tl : t.length ≤ 6) : (trimZ t).all isD = true ∧ (trimZ t).length ≤ t.length := by
 obtain ⟨z, hz⟩ := trim_split t
 have h1 := congrArg List.length hz
 rw [List.length_append] at h1
 refine ⟨?_, by omega⟩
 rw [hz, List.all_append, Bool.and_eq_true] at ht
 exact ht.1
theorem digsB_of' {l : List UInt8} {lo hi : Nat} (h : l.all isD = true) (h1 : lo ≤ l.length) (h2 : l.length ≤ hi) : digsB l lo hi = true := by
 unfold digsB
 rw [h, decide_eq_true (by omega), decide_eq_true (by omega)]; rfl
theorem noDot {c : List UInt8} (h : c.all isD = true) : hasDot c = false := by
 unfold hasDot
 rw [Bool.eq_false_iff]
 intro hc
 have := List.all_eq_true.1 h 46 (by simpa using hc)
 exact absurd this (by decide)
theorem point_parts {a t : List UInt8} (h : a.all isD = true) : headL (a ++ 46 :: t) = a ∧ tailL (a ++ 46 :: t) = t ∧ hasDot (a ++ 46 :: t) = true := by
 induction a with
 | nil => exact ⟨rfl, rfl, rfl⟩
 | cons x a ih =>
  rw [List.all_cons, Bool.and_eq_true] at h
  obtain ⟨h1, h2, h3⟩ := ih h.2
  have hx : (x != 46) = true := by
   simp; intro e; rw [e] at h; exact absurd h.1 (by decide)
  unfold headL tailL hasDot at *
  refine ⟨?_, ?_, ?_⟩
  ·simp only [List.cons_append, List.takeWhile_cons, hx, if_true, h1]
  ·simp only [List.cons_append, List.dropWhile_cons, hx, if_true, h2]
  ·simp only [List.cons_append, List.contains_cons, h3, Bool.or_true]
theorem short_parts {l : List UInt8} (h : okE l = true) : okE (shortL l) = true ∧ hasMinus (shortL l) = hasMinus l ∧ hs (shortL l) = hs l ∧ ts (shortL l) = trimZ (ts l) := by
 obtain ⟨hda, hd1, hd2, hl0, hta, htl6, _⟩ := ok_facts h
 obtain ⟨tza, tzl⟩ := trim_facts hta htl6
 have hsh := short_eq h
 generalize hs l = a at *
 generalize ts l = t at *
 have hane : ∃ x a', a = x :: a' := by
  cases a with
  | nil => simp at hd1
  | cons x a' => exact ⟨x, a', rfl⟩
 have hm : hasMinus (shortL l) = hasMinus l ∧ cutM (shortL l) = a ++ fracL t := by
  rw [hsh]
  cases hmn : hasMinus l with
  | true =>
   refine ⟨rfl, ?_⟩
   unfold cutM
   have : hasMinus (sgn true ++ a ++ fracL t) = true := rfl
   rw [this, if_pos rfl]; rfl
  | false =>
   obtain ⟨x, a', rfl⟩ := hane
   have hx : isD x = true := List.all_eq_true.1 hda x (List.mem_cons_self ..)
   have h0 : hasMinus (sgn false ++ (x :: a') ++ fracL t) = false := by
    show (some x == some 45) = false
    simp
    intro e
    rw [e] at hx
    exact absurd hx (by decide)
   refine ⟨h0, ?_⟩
   unfold cutM
   rw [h0, if_neg (by simp)]; rfl
 obtain ⟨hm1, hm2⟩ := hm
 have hdig : digsB a 1 9 = true := by
  have := digsB_of' hda hd1 hd2
  exact this
 by_cases htz : trimZ t = []
 ·have hc : cutM (shortL l) = a := by rw [hm2]; unfold fracL; rw [if_pos htz, List.append_nil]
  have hdot : hasDot a = false := noDot hda
  obtain ⟨b1, b2⟩ := head_all a hdot
  have e1 : hs (shortL l) = a := by unfold hs; rw [hc, b1]
  have e2 : ts (shortL l) = [] := by unfold ts; rw [hc, b2]
  refine ⟨?_, hm1, e1, by rw [e2, htz]⟩
  unfold okE
  rw [e1, hc, hdot, hdig, hl0]; rfl
 ·have hc : cutM (shortL l) = a ++ 46 :: trimZ t := by rw [hm2]; unfold fracL; rw [if_neg htz]
  obtain ⟨b1, b2, b3⟩ := point_parts (t := trimZ t) hda
  have e1 : hs (shortL l) = a := by unfold hs; rw [hc, b1]
  have e2 : ts (shortL l) = trimZ t := by unfold ts; rw [hc, b2]
  refine ⟨?_, hm1, e1, e2⟩
  have hne : 1 ≤ (trimZ t).length := by
   cases hq : trimZ t with
   | nil => exact absurd hq htz
   | cons x y => simp
  unfold okE
  have hd6 : digsB (trimZ t) 1 6 = true := digsB_of' (lo := 1) (hi := 6) tza hne (by omega)
  rw [e1, e2, hc, b3, hdig, hl0, hd6]; rfl
theorem short_idem {l : List UInt8} (h : okE l = true) : shortL (shortL l) = shortL l := by
 obtain ⟨h1, h2, h3, h4⟩ := short_parts h
 rw [short_eq h1, h2, h3, h4, short_eq h]
 congr 1
 unfold fracL
 rw [trim_idem]
theorem quo_eq {a b c d : List UInt8} (ha : a.all isD = true) (hb : b.all isD = true) (hc : c.all isD = true) (hd : d.all isD = true) (la : a.length ≤ 9) (lb : b.length ≤ 6) (lc : c.length ≤ 9) (ld : d.length ≤ 6)
    (h : valL (a ++ b) * 10 ^ d.length = valL (c ++ d) * 10 ^ b.length) : quo a b = quo c d := by
  have bound : ∀ {a b : List UInt8}, a.all isD = true → b.all isD = true → a.length ≤ 9 → valL (a ++ b) < 10 ^ 9 * 10 ^ b.length := by
    intro a b ha hb la
    have hlt := valL_lt (a ++ b) (by rw [List.all_append, ha, hb]; rfl)
    refine Nat.lt_of_lt_of_le hlt ?_
    rw [← Nat.pow_add]
    exact Nat.pow_le_pow_right (by omega) (by rw [List.length_append]; omega)
  have p1 : 0 < 10 ^ d.length := Nat.pow_pos (by omega)
  have p2 : 0 < 10 ^ b.length := Nat.pow_pos (by omega)
  unfold quo
  by_cases h0 : valL (a ++ b) = 0
  · have h0' : valL (c ++ d) = 0 := by
      rw [h0, Nat.zero_mul] at h
      rcases Nat.mul_eq_zero.1 h.symm with h | h
      · exact h
      · omega
    have z1 := eq_of_beq (List.all_eq_true.1 zero_div b.length (List.mem_range.2 (by omega)))
    have z2 := eq_of_beq (List.all_eq_true.1 zero_div d.length (List.mem_range.2 (by omega)))
    rw [h0, h0', z1, z2]
  · have h0' : valL (c ++ d) ≠ 0 := by
      intro e
      rw [e, Nat.zero_mul] at h
      rcases Nat.mul_eq_zero.1 h with h | h
      · exact h0 h
      · omega
    obtain ⟨M, t, e1, m1, m2, _, _, n1⟩ := div_ten (n := valL (a ++ b)) (k := b.length) (by omega) lb (bound ha hb la)
    obtain ⟨M', t', e2, m1', m2', _, _, n2⟩ := div_ten (n := valL (c ++ d)) (k := d.length) (by omega) ld (bound hc hd lc)
    obtain ⟨eM, et⟩ := near_unique p2 p1 h n1 n2 ⟨m1, m2⟩ ⟨m1', m2'⟩
    rw [e1, e2, eM, et]
theorem fw_short {l : List UInt8} (h : okE l = true) : fwE (shortL l) = fwE l := by
 obtain ⟨hda, hd1, hd2, hl0, hta, htl6, _⟩ := ok_facts h
 obtain ⟨h1, h2, h3, h4⟩ := short_parts h
 obtain ⟨tza, tzl⟩ := trim_facts hta htl6
 unfold fwE
 rw [h2, h3, h4]
 congr 1
 refine quo_eq hda tza hda hta hd2 (by omega) hd2 htl6 ?_
 obtain ⟨z, hz⟩ := trim_split (ts l)
 have hlen := congrArg List.length hz
 rw [List.length_append, List.length_replicate] at hlen
 have hv : valL (hs l ++ ts l) = valL (hs l ++ trimZ (ts l)) * 10 ^ z := by
  rw [← valL_zeros, List.append_assoc, ← hz]
 rw [hv, hlen, Nat.pow_add]
 ac_rfl
theorem rd_short {l : List UInt8} (h : rdO l = true) : rdO (shortL l) = true ∧ rdF (shortL l) = rdF l ∧ shortL (shortL l) = shortL l := by
 rcases spec3_cases l with ⟨rfl, e1, e2⟩ | ⟨rfl, e1, e2⟩ | ⟨rfl, e1, e2⟩ | ⟨h1, h2, h3, e1, e2⟩
 ·exact ⟨rfl, rfl, rfl⟩
 ·exact ⟨rfl, rfl, rfl⟩
 ·exact ⟨rfl, rfl, rfl⟩
 ·rw [e2] at h
  obtain ⟨p1, _⟩ := short_parts h
  have hs3 : rdF (shortL l) = fwE (shortL l) ∧ rdO (shortL l) = true := by
   rcases spec3_cases (shortL l) with ⟨e, _, _⟩ | ⟨e, _, _⟩ | ⟨e, _, _⟩ | ⟨_, _, _, a, b⟩
   ·rw [e] at p1; exact absurd p1 (by decide)
   ·rw [e] at p1; exact absurd p1 (by decide)
   ·rw [e] at p1; exact absurd p1 (by decide)
   ·exact ⟨by rw [a, if_pos p1], by rw [b, p1]⟩
  exact ⟨hs3.2, by rw [hs3.1, fw_short h, e1, if_pos h], short_idem h⟩
end Go.Proofs.YtihjaobjhmmboaaGreatDoor

namespace Go.Proofs.YtihjaobjhmmboaaGreatDoor
open Go.AM Go.RowKit Ieee
set_option maxRecDepth 100000
theorem ok_rd {l : List UInt8} {b : Nat} (hl : okE l = true) (hf : fwE l = b) : rdO (shortL l) = true ∧ keyZ (rdF (shortL l)) = keyZ b := by
 have e : rdO l = true ∧ rdF l = b := by
  rcases spec3_cases l with ⟨e, _, _⟩ | ⟨e, _, _⟩ | ⟨e, _, _⟩ | ⟨_, _, _, h1, h2⟩
  ·rw [e] at hl; exact absurd hl (by decide)
  ·rw [e] at hl; exact absurd hl (by decide)
  ·rw [e] at hl; exact absurd hl (by decide)
  ·exact ⟨by rw [h2, hl], by rw [h1, if_pos hl, hf]⟩
 obtain ⟨h1, h2, _⟩ := rd_short e.1
 exact ⟨h1, by rw [h2, e.2]⟩
theorem told_textR {b : Nat} (hb : b < 2 ^ 64) (ht : toldB b) : ∃ l : List UInt8, l.length ≤ 40 ∧ (rdO l = true ∧ keyZ (rdF l) = keyZ b) ∧ ∀ (n : Nat) (H : Heap), GH n H → Gives Tryz.prog 60 [.float .f64 b] n H fun v _ _ => v = .string (BA l) := by
  have low : ∀ {b : Nat} {s : ByteArray} {n : Nat} {H : Heap}, (Gives Tryz.prog 60 [.float .f64 b] n H fun v n' H' => v = .string s ∧ n' = n ∧ H' = H) → Gives Tryz.prog 60 [.float .f64 b] n H fun v n' H' => v = .string s := by
    rintro b s n H ⟨v, n', H', a, c, e, _⟩
    exact ⟨v, n', H', a, c, e⟩
  cases hn : nanB b with
  | true => exact ⟨[110, 97, 110], by simp, ⟨rfl, by
    have h1 : realB b = false := by rw [realB_eq (by omega), hn]; rfl
    have h2 : realB (rdF [110, 97, 110]) = false := by kernel_rfl
    unfold keyZ; rw [h1, h2]; rfl⟩, fun n H _ => low (text_nan b (by rw [realB_eq (by omega), hn]; rfl) n H)⟩
  | false =>
    rcases ht with h | h | h | ⟨m, q, a, hm, hq, ho, hab⟩
    · rw [hn] at h; cases h
    · obtain rfl := same_bits hn (by kernel_rfl) h
      exact ⟨[105, 110, 102], by simp, ⟨rfl, rfl⟩, fun n H _ => low (text_inf n H)⟩
    · obtain rfl := same_bits hn (by kernel_rfl) h
      exact ⟨[45, 105, 110, 102], by simp, ⟨rfl, rfl⟩, fun n H _ => low (text_ninf n H)⟩
    · have fin : ∀ l, okE l = true → fwE l = b → ∃ l : List UInt8, l.length ≤ 40 ∧ (rdO l = true ∧ keyZ (rdF l) = keyZ b) ∧ ∀ (n : Nat) (H : Heap), GH n H → Gives Tryz.prog 60 [.float .f64 b] n H fun v _ _ => v = .string (BA l) := fun l hl hf =>
        ⟨shortL l, by have := short17 hl; omega, ok_rd hl hf, fun n H hw => by
          have h := text_gives hl hw
          rwa [hf] at h⟩
      obtain ⟨l0, hl0, hf0, hq63⟩ := text_ex false hm hq
      obtain ⟨l1, hl1, hf1, _⟩ := text_ex true hm hq
      simp only [if_true, Bool.false_eq_true, if_false, Nat.add_zero] at hf0 hf1
      have o0 : Format.order double 0 0 = some .eq := by kernel_rfl
      have o1 : Format.order double 9223372036854775808 0 = some .eq := by kernel_rfl
      rcases hab with rfl | ⟨rfl, hlt⟩
      · rcases order_eq (by omega) hb ho with e | ⟨h1, h2⟩
        · exact fin l0 hl0 (hf0.trans e)
        · have hq0 : q = 0 := by rcases h1 with h1 | h1 <;> omega
          rcases h2 with h2 | h2
          · exact fin l0 hl0 (by omega)
          · exact fin l1 hl1 (by omega)
      · have h1 : (b ^^^ 2 ^ 63) % 2 ^ 63 = b % 2 ^ 63 := by rw [Nat.xor_mod_two_pow]; simp
        have h2 : (b ^^^ 2 ^ 63) / 2 ^ 63 = (b / 2 ^ 63) ^^^ 1 := by rw [Nat.xor_div_two_pow]
        have hq : b / 2 ^ 63 = 0 ∨ b / 2 ^ 63 = 1 := by omega
        have hx : (b / 2 ^ 63) ^^^ 1 = 1 - b / 2 ^ 63 := by rcases hq with hq | hq <;> rw [hq] <;> rfl
        rw [hx] at h2
        generalize b ^^^ 2 ^ 63 = a at *
        rcases order_eq (by omega) (by omega) ho with e | ⟨h3, h4⟩
        · exact fin l1 hl1 (by omega)
        · exfalso
          have : b = 0 ∨ b = 9223372036854775808 := by rcases h4 with h4 | h4 <;> omega
          rcases this with rfl | rfl
          · rw [o0] at hlt; cases hlt
          · rw [o1] at hlt; cases hlt
theorem gtold_true {b : Nat} (hb : b < 2 ^ 64) (ht : toldB b) {n : Nat} {H : Heap} (hw : GH n H) : Gives Tryz.prog 50 [.float .f64 b] n H fun v _ _ => v = .bool true := by
 obtain ⟨l, hl, ⟨hr, hkey⟩, ht⟩ := told_textR hb ht
 refine Gives.of orders ok50 (Nat.le_of_ble_eq_true rfl) ?_
 repeat (first | refine qqm rfl ?_ | ((first | refine qqr ?_ | refine qqt ?_); simp only [SS, qx21, simprocAttr]))
 refine AtCall.by (ht n H hw) ?_
 rintro v n2 H2 k2 rfl
 simp only [SS, qx21, simprocAttr]
 refine AtCall.by (readall_gives l hl _ _) ?_
 rintro v n3 H3 k3 ⟨rfl, rfl, rfl⟩
 rw [hr]
 simp only [SS, qx21, simprocAttr]
 repeat (first | refine qqm rfl ?_ | ((first | refine qqr ?_ | refine qqt ?_); simp only [SS, qx21, simprocAttr]))
 refine AtCall.by (keysame_gives _ _ _ _) ?_
 rintro v n4 H4 k4 ⟨rfl, rfl, rfl⟩
 rw [hkey]
 simp only [SS, qx21, simprocAttr]
 repeat (first | refine qqm rfl ?_ | ((first | refine qqr ?_ | refine qqt ?_); simp only [SS, qx21, simprocAttr]))
 first | refine qqf ?_ ?_ | refine qqg ?_ ?_
 ·exact k2.keep
 ·simp only [packed, qv, Nat.reduceEqDiff, ↓reduceIte]
  all_goals simp
end Go.Proofs.YtihjaobjhmmboaaGreatDoor
