/- A part of a proof. Its conditions: none. -/
import Derived.Test.YtihjaobjhmmboaaGreatDoorAmULfCostW
import Derived.Test.YtihjaobjhmmboaaGreatDoorAmULfNullable
import Derived.Test.YtihjaobjhmmboaaGreatDoorAmC
set_option linter.all false
namespace Go.Proofs.YtihjaobjhmmboaaGreatDoor
open Go.AM
set_option maxRecDepth 100000
def qt1 : ByteArray := ⟨#[39]⟩
def nameB (g : Gram) (s : Int) : ByteArray := if 0 ≤ s then g.vars.getD s.toNat qt1 else qt1 ++ g.terms.getD (-s - 1).toNat qt1 ++ qt1
set_option maxHeartbeats 8000000 in
theorem name_gives {pt pv pr : Option Addr} {g : Gram} {s : Int} {n : Nat} {H : Heap} (hw : WF n H) (ht : RA Value.string H pt g.terms) (hv : RA Value.string H pv g.vars) (hs : s < g.vars.length) (hs' : s < 0 → -s - 1 < g.terms.length)
  (hl : g.vars.length ≤ 64 ∧ g.terms.length ≤ 64) (hq : ∀ s ∈ g.terms, s.size ≤ 16) :
  Gives Tryz.prog 27 [.agg (gcells pt pv pr g).toArray, .int .i64 s] n H fun v _ _ => v = .string (nameB g s) := by
 refine Gives.of orders ok27 (Nat.le_of_ble_eq_true rfl) ?_
 have k1 := Kp.new n H (.cells (gcells pt pv pr g) 25 true)
 have hb := hset_at H n (.cells (gcells pt pv pr g) 25 true)
 have hv1 := hv.mono hw k1
 have ht1 := ht.mono hw k1
 repeat refine qqn rfl ?_
 (refine qqr ?_; simp only [SS, qx31, vun, simprocAttr, box_cells, box_one, ff_27])
 generalize hset H n (.cells (gcells pt pv pr g) 25 true) = H1 at *
 repeat (first | refine qqm rfl ?_ | ((first | refine qqr ?_ | refine qqt ?_); simp only [SS, qx31, vun, simprocAttr, ff_27]))
 refine AtCall.by (isVar_gives _ _ _) ?_
 rintro v n2 H2 k2 ⟨rfl, rfl, rfl⟩
 by_cases h0 : 0 ≤ s
 ·obtain ⟨u, rfl⟩ := Int.eq_ofNat_of_zero_le h0
  have hu : u < g.vars.length := by omega
  obtain ⟨x, k, cs, ty, own, rfl, hx, e⟩ := hv1.at hu
  have hn : nameB g (u : Int) = g.vars[u] := by unfold nameB; rw [if_pos h0, Int.toNat_natCast, List.getD_eq_getElem?_getD, List.getElem?_eq_getElem hu]; rfl
  simp only [SS, qx31, vun, simprocAttr, h0, decide_true, ff_27]
  repeat (first | refine qqm rfl ?_ | ((first | refine qqr ?_ | refine qqt ?_); simp only [SS, qx31, vun, simprocAttr, hb, gc_0, gc_1, gc_len, hu, hx, e, ff_27]))
  first | refine qqf ?_ ?_ | refine qqg ?_ ?_
  ·exact k1.keep
  ·simp only [packed, qv, Nat.reduceEqDiff, ↓reduceIte, ff_27]
   rw [hn]
 ·obtain ⟨t, ht0⟩ : ∃ t : Nat, -s - 1 = t := ⟨(-s - 1).toNat, by omega⟩
  have htv : t < g.terms.length := by omega
  obtain ⟨x, k, cs, ty, own, rfl, hx, e⟩ := ht1.at htv
  have hn1 := bnot_i64 (n := s) (by omega) (by omega)
  rw [ht0] at hn1
  have hn : nameB g s = qt1 ++ g.terms[t] ++ qt1 := by unfold nameB; rw [if_neg h0, ht0, Int.toNat_natCast, List.getD_eq_getElem?_getD, List.getElem?_eq_getElem htv]; rfl
  have hz := hq _ (List.getElem_mem htv)
  have h0' : (0 ≤ s) = False := eq_false h0
  generalize g.terms[t] = w at *
  have s1 : (IntKind.i64.max < ((((⟨#[39]⟩ : ByteArray).size + w.size : Nat)) : Int)) = False := by
   have : (⟨#[39]⟩ : ByteArray).size = 1 := rfl
   have h2 : IntKind.i64.max = 9223372036854775807 := rfl
   rw [this, h2]
   exact eq_false (by omega)
  have s2 : (IntKind.i64.max < (((((⟨#[39]⟩ : ByteArray) ++ w).size + (⟨#[39]⟩ : ByteArray).size : Nat)) : Int)) = False := by
   have : (⟨#[39]⟩ : ByteArray).size = 1 := rfl
   have h2 : IntKind.i64.max = 9223372036854775807 := rfl
   rw [ByteArray.size_append, this, h2]
   exact eq_false (by omega)
  simp only [SS, qx31, vun, simprocAttr, h0', decide_false, ff_27]
  repeat (first | refine qqm rfl ?_ | ((first | refine qqr ?_ | refine qqt ?_); simp only [SS, qx31, vun, simprocAttr, hb, gc_0, gc_1, gc_len, htv, hx, e, hn1, s1, s2, ff_27]))
  first | refine qqf ?_ ?_ | refine qqg ?_ ?_
  ·exact k1.keep
  ·simp only [packed, qv, Nat.reduceEqDiff, ↓reduceIte, ff_27]
   rw [hn]; rfl
end Go.Proofs.YtihjaobjhmmboaaGreatDoor

namespace Go.Proofs.YtihjaobjhmmboaaGreatDoor
open Go.AM
set_option maxRecDepth 100000
def LTB (a b : ByteArray) : Prop := Op.bytesLess a.toList b.toList = true
theorem bless_trans : ∀ {a b c : List UInt8}, Op.bytesLess a b = true → Op.bytesLess b c = true → Op.bytesLess a c = true
 | [], [], _, h, _ => by simp [Op.bytesLess] at h
 | [], _ :: _, [], _, h => by simp [Op.bytesLess] at h
 | [], _ :: _, _ :: _, _, _ => by simp [Op.bytesLess]
 | _ :: _, [], _, h, _ => by simp [Op.bytesLess] at h
 | _ :: _, _ :: _, [], _, h => by simp [Op.bytesLess] at h
 | x :: a, y :: b, z :: c, h, k => by
  simp only [Op.bytesLess, Bool.or_eq_true, decide_eq_true_eq, Bool.and_eq_true, beq_iff_eq, UInt8.lt_iff_toNat_lt] at *
  rcases h with h | ⟨rfl, h⟩ <;> rcases k with k | ⟨rfl, k⟩
  ·left; omega
  ·left; omega
  ·left; omega
  ·right; exact ⟨rfl, bless_trans h k⟩
theorem less_self : ∀ a : List Int, less a a = false := by
 intro a
 induction a with
 | nil => rfl
 | cons x a ih => simp [less, ih]
theorem same_self (a : List Int) : same a a = true := by simp [same, less_self]
theorem place_congr {a b : ByteArray} (h : a.toList = b.toList) : ∀ (l : List ByteArray) (i : Nat), place l a i = place l b i
 | [], _ => rfl
 | x :: l, i => by simp only [place, h, place_congr h l (i + 1)]
theorem goodG_of {g : Gram} (ok : RightX g) : GoodG NB QB LTB toldB g where
 vars1 := ok.vars1
 vars := ok.vars
 terms := ok.terms
 rules := ok.rules
 inG := ok.toRightOK.inG
 len := fun r hr => by
  obtain ⟨i, hi, rfl⟩ := List.getElem_of_mem hr
  exact (ok.rule i hi).len
 told := fun r hr => by
  obtain ⟨i, hi, rfl⟩ := List.getElem_of_mem hr
  exact (ok.rule i hi).told
 up := by
  refine List.pairwise_iff_getElem.2 fun i j hi hj hij => ?_
  induction j with
  | zero => omega
  | succ j ih =>
   have h1 := (ok.rule (j + 1) hj).up j rfl _ (List.getElem?_eq_getElem (by omega))
   by_cases e : i = j
   ·subst e; exact h1
   ·exact Int.le_trans (ih (by omega) (by omega)) h1
 unlike := by
  refine List.pairwise_iff_getElem.2 fun i j hi hj hij e h => ?_
  have := ok.unlike j hj i hi hij e
  rw [h, same_self] at this
  cases this
 has := fun v hv => by
  have h := ok.count v hv
  unfold countR at h
  obtain ⟨r, hr⟩ := List.exists_mem_of_length_pos (Nat.pos_of_ne_zero h)
  obtain ⟨h1, h2⟩ := List.mem_filter.1 hr
  exact ⟨r, h1, by simpa using h2⟩
 used := fun t ht => by
  have h := ok.used t ht
  unfold usesR at h
  obtain ⟨r, hr, h⟩ := List.any_eq_true.1 h
  obtain ⟨s, hs, h⟩ := List.any_eq_true.1 h
  exact ⟨r, hr, by have := of_decide_eq_true h; rwa [← this]⟩
 names := fun s hs => by
  obtain ⟨i, hi, rfl⟩ := List.getElem_of_mem hs
  exact (ok.names i hi).1
 uniq := by
  refine List.pairwise_iff_getElem.2 fun i j hi hj hij e => ?_
  have h1 := (ok.names i hi).2
  have h2 := (ok.names j hj).2
  rw [place_congr e] at h1
  omega
 quotes := fun s hs => by
  obtain ⟨i, hi, rfl⟩ := List.getElem_of_mem hs
  exact (ok.quotes i hi).1
 rise := by
  refine List.pairwise_iff_getElem.2 fun i j hi hj hij => ?_
  induction j with
  | zero => omega
  | succ j ih =>
   have h1 : LTB _ _ := (ok.quotes (j + 1) hj).2 j (by omega) rfl
   by_cases e : i = j
   ·subst e; exact h1
   ·exact bless_trans (ih (by omega) (by omega)) h1
end Go.Proofs.YtihjaobjhmmboaaGreatDoor

namespace Go.Proofs.YtihjaobjhmmboaaGreatDoor
open Go.AM
set_option maxRecDepth 100000
theorem rightOK_of {g : Gram} (G : GoodG NB QB LTB toldB g) : RightOK g where
 vars1 := G.vars1
 vars := G.vars
 terms := G.terms
 rules := G.rules
 rule := fun i h => {
  left0 := G.inG.left0 _ (List.getElem_mem h)
  left1 := G.inG.left1 _ (List.getElem_mem h)
  len := G.len _ (List.getElem_mem h)
  sym := fun s hs => ⟨G.inG.right _ (List.getElem_mem h) s hs, G.inG.rightT _ (List.getElem_mem h) s hs⟩
  up := fun q hq r' hr' => by
   subst hq
   rw [List.getElem?_eq_getElem (by omega)] at hr'
   cases hr'
   exact List.pairwise_iff_getElem.1 G.up q (q + 1) (by omega) h (by omega)
  told := G.told _ (List.getElem_mem h) }
 count := fun v hv hc => by
  obtain ⟨r, hr, hl⟩ := G.has v hv
  unfold countR at hc
  have := List.length_eq_zero_iff.1 hc
  have hm : r ∈ g.rules.filter fun r => decide (r.left = (v : Int)) := List.mem_filter.2 ⟨hr, by simpa using hl⟩
  rw [this] at hm
  cases hm
end Go.Proofs.YtihjaobjhmmboaaGreatDoor

namespace Go.Proofs.YtihjaobjhmmboaaGreatDoor
open Go.AM
set_option maxRecDepth 100000
theorem wg_red {g : Gram} {u st : Nat → Bool} {kp : GRule → Bool} (wg : WG g) (K : Keeps g u st kp) (G : GoodG NB QB LTB toldB (redG g u st kp)) : WG (redG g u st kp) where
 terms := by have := G.terms; unfold maxL; omega
 vars := by have := G.vars; unfold maxL; omega
 rules := by have := G.rules; unfold maxL; omega
 left := fun r hr => by
  have h0 := G.inG.left0 r hr
  have h1 := G.inG.left1 r hr
  have := G.vars
  unfold inI; omega
 right := fun r hr => by
  refine ⟨by have := G.len r hr; unfold maxL; omega, fun s hs => ?_⟩
  have h0 := G.inG.right r hr s hs
  have h1 := G.inG.rightT r hr s hs
  have := G.vars
  have := G.terms
  unfold inI; omega
 weight := fun r hr => by
  obtain ⟨r0, h0, _, rfl⟩ := K.of_mem hr
  exact wg.weight r0 h0
 size := fun s hs => by
  refine wg.size s ?_
  rcases List.mem_append.1 hs with h | h
  ·exact List.mem_append_left _ ((pk_sub _ _).subset h)
  ·exact List.mem_append_right _ ((pk_sub _ _).subset h)
theorem filter_at {α : Type} {p : α → Bool} : ∀ (l : List α) (k : Nat) (h : k < l.length), p l[k] = true → (l.filter p)[((l.take k).filter p).length]? = some l[k]
 | [], _, h, _ => absurd h (Nat.not_lt_zero _)
 | a :: l, 0, _, hp => by
  simp only [List.getElem_cons_zero] at hp
  simp [hp]
 | a :: l, k + 1, h, hp => by
  simp only [List.getElem_cons_succ] at hp ⊢
  have ih := filter_at l k (by simpa using h) hp
  rw [List.take_succ_cons]
  by_cases ha : p a = true
  ·rw [List.filter_cons_of_pos ha, List.filter_cons_of_pos ha, List.length_cons, List.getElem?_cons_succ]
   exact ih
  ·rw [List.filter_cons_of_neg ha, List.filter_cons_of_neg ha]
   exact ih
theorem was_at {us : List Bool} {m i : Nat} (h : i < m) (hu : uB us i = true) : (wasL us m)[rk (uB us) i]? = some (i : Int) := by
 have := pk_at (p := uB us) (l := (List.range m).map fun v : Nat => (v : Int)) (i := i) (by simpa using h) hu
 unfold wasL
 rw [this]
 simp
theorem red_vars_len (g : Gram) (u st : Nat → Bool) (kp : GRule → Bool) : (redG g u st kp).vars.length = rk u g.vars.length := pk_len
theorem red_var {g : Gram} {us : List Bool} {st : Nat → Bool} {kp : GRule → Bool} {k : Nat} (h : k < (redG g (uB us) st kp).vars.length) :
  ∃ i, ∃ hi : i < g.vars.length, (wasL us g.vars.length)[k]? = some (i : Int) ∧ (redG g (uB us) st kp).vars[k] = g.vars[i] := by
 obtain ⟨i, hi, h1, h2, h3⟩ := pk_mem (p := uB us) (l := g.vars) (k := k) (a := (redG g (uB us) st kp).vars[k]) (List.getElem?_eq_getElem h)
 refine ⟨i, hi, ?_, h3.symm⟩
 rw [← h2]
 exact was_at hi h1
theorem name_red {g : Gram} {u st : Nat → Bool} {kp : GRule → Bool} (hi : InG g) {r : GRule} (hr : r ∈ g.rules) {s : Int} (hs : s ∈ r.right) (hu : 0 ≤ s → u s.toNat = true) (ht : s < 0 → st (-s - 1).toNat = true) : nameB (redG g u st kp) (mapS u st s) = nameB g s := by
 have h1 := hi.right r hr s hs
 have h2 := hi.rightT r hr s hs
 unfold nameB mapS
 by_cases h0 : 0 ≤ s
 ·have hv := pk_at (p := u) (l := g.vars) (i := s.toNat) (by omega) (hu h0)
  rw [if_pos h0, if_pos h0, if_pos (by omega), Int.toNat_natCast, List.getD_eq_getElem?_getD, List.getD_eq_getElem?_getD]
  show ((pk u 0 g.vars)[_]?).getD qt1 = _
  rw [hv, List.getElem?_eq_getElem (by omega)]
 ·have hv := pk_at (p := st) (l := g.terms) (i := (-s - 1).toNat) (by omega) (ht (by omega))
  have e : (-(-((rk st (-s - 1).toNat : Nat) : Int) - 1) - 1).toNat = rk st (-s - 1).toNat := by omega
  rw [if_neg h0, if_neg h0, if_neg (by omega), e, List.getD_eq_getElem?_getD, List.getD_eq_getElem?_getD]
  show qt1 ++ ((pk st 0 g.terms)[_]?).getD qt1 ++ qt1 = _
  rw [hv, List.getElem?_eq_getElem (by omega)]
theorem mapS_var {u st : Nat → Bool} {s : Int} : decide (0 ≤ mapS u st s) = decide (0 ≤ s) := by
 unfold mapS
 by_cases h0 : 0 ≤ s
 ·rw [if_pos h0]; simp [h0]
 ·rw [if_neg h0]; simp [h0]; omega
theorem red_again {g : Gram} {u st : Nat → Bool} {kp : GRule → Bool} (K : Keeps g u st kp) (G : GoodG NB QB LTB toldB (redG g u st kp)) {us ws : List Bool}
  (hus : ∀ v, hold us v ↔ Usd (redG g u st kp) v) (hws : ∀ v, hold ws v ↔ Prd (redG g u st kp) v) : redG (redG g u st kp) (uB us) (stB (redG g u st kp) us ws) (kpB us ws) = redG g u st kp := by
 have K2 := keeps_of G.inG hus hws
 have hk : ∀ r ∈ (redG g u st kp).rules, kpB us ws r = true := fun r hr => by
  have h0 := G.inG.left0 r hr
  have h1 := G.inG.left1 r hr
  refine (K2.rule r hr).2 ⟨?_, ?_⟩
  ·have := K.usd_all r.left.toNat (by omega)
   rwa [show ((r.left.toNat : Nat) : Int) = r.left by omega] at this
  ·obtain ⟨r0, hr0, hk0, rfl⟩ := K.of_mem hr
   exact K.prdS hr0 hk0
 refine redG_same G.inG (fun v hv => (K2.var v hv).2 (K.usd_all v hv)) (fun t ht => (K2.term t ht).2 ?_) hk
 obtain ⟨r, h1, h2⟩ := G.used t ht
 exact ⟨r, h1, hk r h1, h2⟩
end Go.Proofs.YtihjaobjhmmboaaGreatDoor

namespace Go.Proofs.YtihjaobjhmmboaaGreatDoor
open Go.AM
set_option maxRecDepth 100000
def allB (none : Bool) (right : List Int) (hs : List Bool) : Bool := if none then nulB right hs else prdB right hs
theorem allB_eq (nn : Bool) (right : List Int) (hs : List Bool) : allB nn right hs = right.all fun s => if 0 ≤ s then hs.getD s.toNat false else !nn := by
 unfold allB nulB prdB
 cases nn
 ·simp only [Bool.false_eq_true, if_false, Bool.not_false]
  congr 1; funext s
  split
  ·rename_i h; simp; omega
  ·rename_i h; simp; omega
 ·simp only [if_true, Bool.not_true]
  congr 1; funext s
  split
  ·rename_i h; simp [h]
  ·rename_i h; simp [h]
theorem all_gives {l : Int} {right : List Int} {wt : Nat} {p : Option Addr} {x n : Nat} {H : Heap} {hs : List Bool} {nn : Bool} (hw : WF n H) (hp : RA (Value.int .i64) H p right)
  (hx : H x = .cells (hs.map .bool) 4 true) (hl : right.length ≤ maxL) (hr : ∀ s ∈ right, s < hs.length) :
  Gives Tryz.prog 46 [.agg #[.int .i64 l, .slice p right.length right.length, .float .f64 wt], .slice (some ⟨x, 0, none⟩) hs.length hs.length, .bool nn] n H fun v _ _ => v = .bool (allB nn right hs) := by
 refine Gives.of orders ok46 (Nat.le_of_ble_eq_true rfl) ?_
 have hk := Kp.new n H (.cells [.int .i64 l, .slice p right.length right.length, .float .f64 wt] 44 true)
 have hb := hset_at H n (.cells [.int .i64 l, .slice p right.length right.length, .float .f64 wt] 44 true)
 replace hp := hp.mono hw hk
 replace hx := (hk.keep x (live_lt hw (live_of hx))).trans hx
 repeat refine qqn rfl ?_
 (refine qqr ?_; simp only [SS, qx0, vun, simprocAttr, ff_46])
 repeat refine qqn rfl ?_
 generalize hset H n (.cells [.int .i64 l, .slice p right.length right.length, .float .f64 wt] 44 true) = H1 at *
 repeat (first | refine qqm rfl ?_ | ((first | refine qqr ?_ | refine qqt ?_); simp only [SS, qx0, vun, simprocAttr, hb, ff_46]))
 unfold maxL at hl
 refine WK.loop (fun k s => ∃ j, s.n = n + 1 ∧ s.H = H1 ∧ s.f 1 = .slice (some ⟨x, 0, none⟩) hs.length hs.length ∧ s.f 2 = .bool nn ∧ s.f 3 = .pointer (some ⟨n, 0, none⟩) ∧ s.f 7 = .int .i64 (j : Nat) ∧ j ≤ right.length ∧ k = right.length - j ∧ allB nn (right.take j) hs = true) right.length ?_ ?_
 ·exact ⟨0, rfl, rfl, rfl, rfl, rfl, rfl, Nat.zero_le _, rfl, by rw [allB_eq]; simp⟩
 rintro kk ⟨f, n', H'⟩ ⟨j, rfl, rfl, f1, f2, f3, f7, hj, rfl, hn⟩ ih
 simp only at f1 f2 f3 f7 ih hb hp hx hk
 by_cases hjr : j < right.length
 ·obtain ⟨z, kz, ds, tz, oz, rfl, hz, e⟩ := hp.at hjr
  have htj : right.take (j + 1) = right.take j ++ [right[j]] := List.take_succ_eq_append_getElem hjr
  have hlt := hr _ (List.getElem_mem hjr)
  have hjw : IntKind.i64.wrap ((j : Int) + 1) = ((j + 1 : Nat) : Int) := by rw [wrap_in (by omega) (by omega)]; rfl
  have stop : (if 0 ≤ right[j] then hs.getD right[j].toNat false else !nn) = false → allB nn right hs = false := fun h => by
   rw [allB_eq, List.all_eq_false]
   exact ⟨right[j], List.getElem_mem hjr, by rw [h]; simp⟩
  have on : (if 0 ≤ right[j] then hs.getD right[j].toNat false else !nn) = true → allB nn (right.take (j + 1)) hs = true := fun h => by
   rw [allB_eq] at hn ⊢
   rw [htj, List.all_append, hn, Bool.true_and, List.all_cons, List.all_nil, Bool.and_true]
   exact h
  by_cases h0 : 0 ≤ right[j]
  ·obtain ⟨s, hs'⟩ : ∃ s : Nat, right[j] = s := ⟨right[j].toNat, by omega⟩
   have hsl : s < hs.length := by omega
   have hg : (hs.map Value.bool)[s]? = some (.bool hs[s]) := by rw [List.getElem?_map, List.getElem?_eq_getElem hsl]; rfl
   have hneg : ((s : Int) < 0) = False := by simp
   have hge : (0 ≤ (s : Int)) = True := by simp
   rw [hs'] at stop on
   have hcond : (if (0 : Int) ≤ (s : Int) then hs.getD (s : Int).toNat false else !nn) = hs[s] := by simp [hsl]
   rw [hcond] at stop on
   cases hb2 : hs[s]
   ·rw [hb2] at hg
    repeat (first | refine qqm rfl ?_ | ((first | refine qqr ?_ | refine qqt ?_); simp only [SS, qx0, vun, simprocAttr, f1, f2, f3, f7, hb, hjr, hz, e, hs', hge, hx, hsl, hg, ff_46]))
    first | refine qqf ?_ ?_ | refine qqg ?_ ?_
    ·exact hk.keep
    ·simp only [packed, qv, Nat.reduceEqDiff, ↓reduceIte, ff_46]
     rw [stop hb2]
   ·rw [hb2] at hg
    cases nn
    ·repeat (first | refine qqm rfl ?_ | ((first | refine qqr ?_ | refine qqt ?_); simp only [SS, qx0, vun, simprocAttr, f1, f2, f3, f7, hb, hjr, hz, e, hs', hge, hneg, hx, hsl, hg, ff_46]))
     refine ih (right.length - (j + 1)) (by omega) _ ⟨j + 1, rfl, rfl, f1, f2, f3, ?_, hjr, rfl, on hb2⟩
     simp only [packed, qv, Nat.reduceEqDiff, ↓reduceIte, f7, hjw, ff_46]
    ·repeat (first | refine qqm rfl ?_ | ((first | refine qqr ?_ | refine qqt ?_); simp only [SS, qx0, vun, simprocAttr, f1, f2, f3, f7, hb, hjr, hz, e, hs', hge, hneg, hx, hsl, hg, ff_46]))
     refine ih (right.length - (j + 1)) (by omega) _ ⟨j + 1, rfl, rfl, f1, f2, f3, ?_, hjr, rfl, on hb2⟩
     simp only [packed, qv, Nat.reduceEqDiff, ↓reduceIte, f7, hjw, ff_46]
  ·have hneg : right[j] < 0 := by omega
   rw [if_neg h0] at stop on
   cases nn
   ·repeat (first | refine qqm rfl ?_ | ((first | refine qqr ?_ | refine qqt ?_); simp only [SS, qx0, vun, simprocAttr, f1, f2, f3, f7, hb, hjr, hz, e, h0, hneg, ff_46]))
    refine ih (right.length - (j + 1)) (by omega) _ ⟨j + 1, rfl, rfl, f1, f2, f3, ?_, hjr, rfl, on rfl⟩
    simp only [packed, qv, Nat.reduceEqDiff, ↓reduceIte, f7, hjw, ff_46]
   ·repeat (first | refine qqm rfl ?_ | ((first | refine qqr ?_ | refine qqt ?_); simp only [SS, qx0, vun, simprocAttr, f1, f2, f3, f7, hb, hjr, hz, e, h0, hneg, ff_46]))
    first | refine qqf ?_ ?_ | refine qqg ?_ ?_
    ·exact hk.keep
    ·simp only [packed, qv, Nat.reduceEqDiff, ↓reduceIte, ff_46]
     rw [stop rfl]
 ·repeat (first | refine qqm rfl ?_ | ((first | refine qqr ?_ | refine qqt ?_); simp only [SS, qx0, vun, simprocAttr, f1, f2, f3, f7, hb, hjr, ff_46]))
  first | refine qqf ?_ ?_ | refine qqg ?_ ?_
  ·exact hk.keep
  ·simp only [packed, qv, Nat.reduceEqDiff, ↓reduceIte, ff_46]
   rw [List.take_of_length_le (by omega)] at hn
   rw [hn]
set_option maxHeartbeats 4000000 in
theorem rounds_gives {v : Value} {g : Gram} {n : Nat} {H : Heap} {nn : Bool} (hw : WF n H) (hg : RG H v g) (wg : WG g) (ok : RightOK g) :
    Gives Tryz.prog 42 [v, .bool nn] n H fun v _ H' => ∃ (hs : List Bool) (x : Nat), n ≤ x ∧ v = .slice (some ⟨x, 0, none⟩) g.vars.length g.vars.length ∧ hs.length = g.vars.length ∧ H' x = .cells (hs.map .bool) 4 true ∧ ∀ v, hold hs v ↔ (if nn then Nul g v else Prd g v) := by
  have hg0 := hg
  obtain ⟨pt, pv, pr, rfl, ht, hv, hr⟩ := hg
  refine Gives.of orders ok42 (Nat.le_of_ble_eq_true rfl) ?_
  have hk := Kp.new n H (.cells (gcells pt pv pr g) 25 true)
  have hb := hset_at H n (.cells (gcells pt pv pr g) 25 true)
  have hi := ok.inG
  have hv64 := ok.vars
  have hv1 := ok.vars1
  have hvl : (g.vars.length : Int) ≤ bigN := by unfold bigN; omega
  have hvl' : g.vars.length ≤ bigN := by unfold bigN; omega
  have hrl := ok.rules
  repeat refine qqn rfl ?_
  (refine qqr ?_; simp only [SS, qx23, simprocAttr, box_cells, box_one, ff_42])
  generalize hset H n (.cells (gcells pt pv pr g) 25 true) = H1 at *
  repeat refine qqn rfl ?_
  (refine qqr ?_; simp only [SS, qx23, simprocAttr, hb, gc_0, gc_1, gc_2, hvl, ff_42])
  rw [rep_map]
  have k1 := Kp.new (n + 1) H1 (.cells ((List.replicate g.vars.length false).map .bool) 4 true)
  have b1 := hset_at H1 (n + 1) (.cells ((List.replicate g.vars.length false).map .bool) 4 true)
  have b0 := (k1.keep n (by omega)).trans hb
  generalize hset H1 (n + 1) (.cells ((List.replicate g.vars.length false).map .bool) 4 true) = H2 at *
  have kk := hk.trans k1
  repeat (first | refine qqm rfl ?_ | ((first | refine qqr ?_ | refine qqt ?_); simp only [SS, qx23, simprocAttr, b0, gc_1, ff_42]))
  refine WK.loop (fun k s => ∃ (i x : Nat) (hs : List Bool), Kp n H s.n s.H ∧ s.f 1 = .bool nn ∧ s.f 2 = .pointer (some ⟨n, 0, none⟩) ∧ s.H n = .cells (gcells pt pv pr g) 25 true ∧ s.f 5 = .slice (some ⟨x, 0, none⟩) g.vars.length g.vars.length ∧ s.H x = .cells (hs.map .bool) 4 true ∧ n + 1 ≤ x ∧ hs.length = g.vars.length ∧
      s.f 6 = .int .i64 (i : Nat) ∧ i ≤ g.vars.length ∧ (∀ v, hold hs v → (if nn then Nul g v else Prd g v)) ∧ (ClosedR (fun r => allB nn r.right) g.rules hs ∨ i ≤ hs.count true) ∧ k = g.vars.length - i) g.vars.length ?_ ?_
  · refine ⟨0, n + 1, _, kk, rfl, rfl, b0, rfl, b1, Nat.le_refl _, by simp, rfl, Nat.zero_le _, fun v h => ?_, .inr (Nat.zero_le _), rfl⟩
    exfalso
    have := h.2
    rw [List.getD_eq_getElem?_getD, List.getElem?_replicate] at this
    split at this <;> simp at this
  rintro kk' ⟨f, n4, H4⟩ ⟨i, x, hs, kp, f1, f2, hb4, f5, hx, hxn, hhl, f6, hiv, hsound, hprog, rfl⟩ ih
  simp only at f1 f2 hb4 f5 f6 ih kp hx
  have hw4 := kp.wf hw
  have hxl := live_lt hw4 (live_of hx)
  have hn4 := kp.le
  by_cases hjr : i < g.vars.length
  · have a1 : ∀ o, hset H4 n4 o x = _ := fun o => (hset_ne _ _ _ (by omega)).trans hx
    have a2 : [x].contains n4 = false := by simp; omega
    have a3 : (hs.map Value.bool).take g.vars.length = hs.map Value.bool := List.take_of_length_le (by rw [List.length_map]; omega)
    have a4 : g.vars.length ≤ (hs.map Value.bool).length := by rw [List.length_map]; omega
    repeat (first | refine qqm rfl ?_ | ((first | refine qqr ?_ | refine qqt ?_); simp only [SS, qx23, simprocAttr, f2, f5, f6, hb4, gc_1, hjr, ebs_34_0, a1, a2, a3, a4, hvl', List.drop_zero, List.take_zero, ff_42]))
    have kp1 := ((kp.trans (Kp.new n4 H4 .dead)).trans (Kp.new (n4 + 1) _ (.cells (hs.map .bool) 4 true)))
    have c0 := (hset_ne (hset H4 n4 .dead) (n4 + 1) (.cells (hs.map .bool) 4 true) (x := n) (by omega)).trans ((hset_ne H4 n4 .dead (by omega)).trans hb4)
    have c1 := (hset_ne (hset H4 n4 .dead) (n4 + 1) (.cells (hs.map .bool) 4 true) (x := x) (by omega)).trans ((hset_ne H4 n4 .dead (by omega)).trans hx)
    have c2 := hset_at (hset H4 n4 .dead) (n4 + 1) (.cells (hs.map .bool) 4 true)
    generalize hset (hset H4 n4 .dead) (n4 + 1) (.cells (hs.map .bool) 4 true) = H5 at *
    refine WK.loop (fun k s => ∃ (j : Nat) (nx : List Bool), Kp n H s.n s.H ∧ n4 + 1 < s.n ∧ s.f 1 = .bool nn ∧ s.f 2 = .pointer (some ⟨n, 0, none⟩) ∧ s.H n = .cells (gcells pt pv pr g) 25 true ∧ s.f 5 = .slice (some ⟨x, 0, none⟩) g.vars.length g.vars.length ∧ s.H x = .cells (hs.map .bool) 4 true ∧
        s.f 7 = .slice (some ⟨n4 + 1, 0, none⟩) g.vars.length g.vars.length ∧ s.H (n4 + 1) = .cells (nx.map .bool) 4 true ∧ s.f 6 = .int .i64 (i : Nat) ∧ s.f 8 = .int .i64 (j : Nat) ∧ j ≤ g.rules.length ∧ RoundTo (fun r => allB nn r.right) g.rules j hs nx ∧ k = g.rules.length - j) g.rules.length ?_ ?_
    · exact ⟨0, hs, kp1, Nat.lt_succ_self _, f1, f2, c0, f5, c1, rfl, c2, f6, rfl, Nat.zero_le _, .start _ _ _, rfl⟩
    clear c0 c1 c2 kp1 f1 f2 f5 f6 hb4 hx a1 a2 a3 a4 kp
    rintro kk' ⟨f, n6, H6⟩ ⟨j, nx, kp, hn6, f1, f2, hb6, f5, hx, f7, hnx, f6, f8, hj, hrt, rfl⟩ ih2
    simp only at f1 f2 hb6 f5 f6 f7 f8 ih2 kp hx hnx hn6
    have hw6 := kp.wf hw
    have hxl6 := live_lt hw6 (live_of hx)
    by_cases hjl : j < g.rules.length
    · have hjw : IntKind.i64.wrap ((j : Int) + 1) = ((j + 1 : Nat) : Int) := by rw [wrap_in (by omega) (by omega)]; rfl
      have hr6 := hr.mono hw kp
      obtain ⟨z, kz, cs, ty, own, p, e0, hz, d0, d1, d2, hp⟩ := hr6.at hjl
      have d3 := take3 d0 d1 d2
      have d4 := len3 d2
      subst e0
      obtain ⟨l, hl'⟩ : ∃ l : Nat, g.rules[j].left = l := ⟨g.rules[j].left.toNat, by have := (ok.rule j hjl).left0; omega⟩
      have hlv : l < g.vars.length := by have := (ok.rule j hjl).left1; omega
      have hm := List.getElem_mem hjl
      repeat (first | refine qqm rfl ?_ | ((first | refine qqr ?_ | refine qqt ?_); simp only [SS, qx23, simprocAttr, f1, f2, f5, f8, hb6, gc_2, hjl, hz, d3, d4, ff_42]))
      have hall := all_gives (l := g.rules[j].left) (wt := g.rules[j].weight) (nn := nn) hw6 hp hx (wg.right _ hm).1 (fun s hs => by rw [hhl]; exact hi.right _ hm s hs)
      rw [hhl] at hall
      refine AtCall.by hall ?_
      rintro v n7 H7 k7 rfl
      have kp7 := kp.trans k7
      have e1 := (k7.keep n (by omega)).trans hb6
      have e2 := (k7.keep x hxl6).trans hx
      have e3 := (k7.keep (n4 + 1) (by omega)).trans hnx
      have e4 := (k7.keep z (live_lt hw6 (live_of hz))).trans hz
      have hn7 := k7.le
      cases hb7 : allB nn g.rules[j].right hs
      · simp only [SS, qx23, simprocAttr, ff_42]
        repeat (first | refine qqm rfl ?_ | ((first | refine qqr ?_ | refine qqt ?_); simp only [SS, qx23, simprocAttr, f8, ff_42]))
        refine ih2 (g.rules.length - (j + 1)) (by omega) _ ⟨j + 1, nx, kp7, by show n4 + 1 < n7; omega, f1, f2, e1, f5, e2, f7, e3, f6, ?_, hjl, hrt.skip hjl hb7, rfl⟩
        simp only [packed, qv, Nat.reduceEqDiff, ↓reduceIte, f8, hjw, ff_42]
      · simp only [SS, qx23, simprocAttr, ff_42]
        have hnl : nx.length = g.vars.length := by rw [hrt.len]; exact hhl
        have hlv' : l + 1 ≤ nx.length := by omega
        have hset' : (nx.map Value.bool).set l (.bool true) = (nx.set l true).map .bool := by rw [List.map_set]
        repeat (first | refine qqm rfl ?_ | ((first | refine qqr ?_ | refine qqt ?_); simp only [SS, qx23, simprocAttr, f2, f7, f8, e1, e3, e4, gc_2, hjl, d0, hl', hlv, hlv', hset', List.length_map, ff_42]))
        have hne : n4 + 1 ≠ x := by omega
        refine ih2 (g.rules.length - (j + 1)) (by omega) _ ⟨j + 1, nx.set l true, kp7.set _ (by omega) (by omega), by show n4 + 1 < n7; omega, f1, f2, (hset_ne _ _ _ (by omega)).trans e1, f5, (hset_ne _ _ _ (Ne.symm hne)).trans e2, f7, hset_at _ _ _, f6, ?_, hjl, hrt.take hjl hl' (by omega) hb7, rfl⟩
        simp only [packed, qv, Nat.reduceEqDiff, ↓reduceIte, f8, hjw, ff_42]
    · have hje : j = g.rules.length := by omega
      subst hje
      repeat (first | refine qqm rfl ?_ | ((first | refine qqr ?_ | refine qqt ?_); simp only [SS, qx23, simprocAttr, f2, f6, f7, f8, hb6, gc_2, hjl, ff_42]))
      have hle := fun r (hr : r ∈ g.rules) => (⟨hi.left0 r hr, by rw [hhl]; exact hi.left1 r hr⟩ : 0 ≤ r.left ∧ r.left < hs.length)
      refine ih (g.vars.length - (i + 1)) (by omega) _ ⟨i + 1, n4 + 1, nx, kp, f1, f2, hb6, rfl, hnx, by omega, by rw [hrt.len]; exact hhl, ?_, hjr, fun v h => ?_, hrt.next hle hprog, rfl⟩
      · simp only [packed, qv, Nat.reduceEqDiff, ↓reduceIte, ff_42]
        rw [wrap_in (by omega) (by omega)]; rfl
      · obtain ⟨h0, h⟩ := h
        obtain ⟨q, rfl⟩ : ∃ q : Nat, v = q := ⟨v.toNat, by omega⟩
        have hq : q < hs.length := by
          apply Classical.byContradiction
          intro hc
          have e : nx[q]? = none := List.getElem?_eq_none (by rw [hrt.len]; omega)
          rw [List.getD_eq_getElem?_getD] at h
          simp [e] at h
        rcases (hrt.mem q hq).1 (by simpa using h) with h | ⟨r, hr, _, e1, e2⟩
        · exact hsound q ⟨h0, by simpa using h⟩
        · rw [← e1]
          cases nn
          · exact .mk r hr fun s hs' h0 => hsound s (prdB_hold.1 e2 s hs' h0)
          · exact .mk r hr (fun s hs' => (nulB_hold.1 e2 s hs').1) fun s hs' => hsound s (nulB_hold.1 e2 s hs')
  · repeat (first | refine qqm rfl ?_ | ((first | refine qqr ?_ | refine qqt ?_); simp only [SS, qx23, simprocAttr, f2, f5, f6, hb4, gc_1, hjr, ff_42]))
    first | refine qqf ?_ ?_ | refine qqg ?_ ?_
    · exact kp.keep
    · simp only [packed, qv, Nat.reduceEqDiff, ↓reduceIte, f5, ff_42]
      have hcl := closed_full (hs := hs) (fun r hr => ⟨hi.left0 r hr, by rw [hhl]; exact hi.left1 r hr⟩) (hprog.imp id fun h => by omega)
      refine ⟨hs, x, by omega, rfl, hhl, hx, fun v => ⟨hsound v, ?_⟩⟩
      cases nn
      · exact closed_prd hi hcl v
      · exact closed_nul hi hcl v
end Go.Proofs.YtihjaobjhmmboaaGreatDoor
