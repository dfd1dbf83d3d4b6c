/- A part of a proof. Its conditions: none. -/
import Derived.Test.YtfbdababcdfjfaaAmNAtMean
import Derived.Test.YtfbdababcdfjfaaAmNAtSet
import Derived.Test.YtfbdababcdfjfaaAmNUseYield
set_option linter.all false
namespace Go.Proofs.Ytfbdababcdfjfaa
open Go.AM Go.AM.Fo
set_option maxRecDepth 100000
theorem countA_gives {n : Nat} {H : Heap} {p : Option Addr} {R : List Int} {a : Int} (hw : WF n H) (hR : RA (Value.int .i64) H p R) (hl : R.length ≤ 65536) :
  Gives Try.prog 25 [.slice p R.length R.length, .int .i64 a] n H fun v _ _ => v = .int .i64 (R.count a : Nat) := by
 refine Gives.of orders ok25 (Nat.le_of_ble_eq_true rfl) ?_
 repeat (first | refine qqm rfl ?_ | ((first | refine qqr ?_ | refine qqt ?_); simp only [SS, qx6, simprocAttr, ff_25]))
 refine WK.loop (fun kk s => ∃ i : Nat, s.n = n ∧ s.H = H ∧ s.f 1 = .int .i64 a ∧ s.f 5 = .int .i64 ((R.take i).count a : Nat) ∧ s.f 8 = .slice p R.length R.length ∧ s.f 9 = .int .i64 (R.length : Nat) ∧ s.f 10 = .int .i64 (i : Nat) ∧ i ≤ R.length ∧ kk = R.length - i) R.length ?_ ?_
 ·exact ⟨0, rfl, rfl, rfl, rfl, rfl, rfl, rfl, Nat.zero_le _, rfl⟩
 rintro kk ⟨f, n1, H1⟩ ⟨i, e1, e2, f1, f5, f8, f9, f10, hil, rfl⟩ ih
 simp only at e1 e2 f1 f5 f8 f9 f10 ih
 subst e1 e2
 by_cases hlt : i < R.length
 ·have hiw : IntKind.i64.wrap ((i : Int) + 1) = ((i + 1 : Nat) : Int) := by rw [wrap_in (by omega) (by omega)]; rfl
  have hcl : (R.take i).count a ≤ R.length := Nat.le_trans List.count_le_length (by rw [List.length_take]; omega)
  have hcw : IntKind.i64.wrap (((R.take i).count a : Int) + 1) = (((R.take i).count a + 1 : Nat) : Int) := by rw [wrap_in (by omega) (by omega)]; rfl
  obtain ⟨z, kz, ds, tz, oz, e0, hz, e⟩ := hR.at hlt
  subst e0
  have htk : (R.take (i + 1)).count a = (R.take i).count a + if R[i] = a then 1 else 0 := by
   rw [List.take_add_one, List.getElem?_eq_getElem hlt, List.count_append]
   simp [List.count_singleton]
  by_cases he : R[i] = a
  ·rw [if_pos he] at htk
   have he' : (R[i] = a) = True := eq_true he
   repeat (first | refine qqm rfl ?_ | ((first | refine qqr ?_ | refine qqt ?_); simp only [SS, qx6, simprocAttr, f1, f5, f8, f9, f10, hlt, hz, e, he', decide_true, hiw, hcw, ff_25]))
   refine ih (R.length - (i + 1)) (by omega) _ ?_
   exact ⟨i + 1, rfl, rfl, f1, by rw [htk]; rfl, f8, f9, rfl, hlt, rfl⟩
  ·rw [if_neg he, Nat.add_zero] at htk
   have he' : (R[i] = a) = False := eq_false he
   repeat (first | refine qqm rfl ?_ | ((first | refine qqr ?_ | refine qqt ?_); simp only [SS, qx6, simprocAttr, f1, f5, f8, f9, f10, hlt, hz, e, he', decide_false, hiw, ff_25]))
   refine ih (R.length - (i + 1)) (by omega) _ ?_
   exact ⟨i + 1, rfl, rfl, f1, by rw [htk]; exact f5, f8, f9, rfl, hlt, rfl⟩
 ·obtain rfl : i = R.length := by omega
  rw [List.take_length] at f5
  repeat (first | refine qqm rfl ?_ | ((first | refine qqr ?_ | refine qqt ?_); simp only [SS, qx6, simprocAttr, f5, f9, f10, hlt, ff_25]))
  first | refine qqf ?_ ?_ | refine qqg ?_ ?_
  ·exact fun _ _ => rfl
  ·simp only [packed, qv, Nat.reduceEqDiff, ↓reduceIte, ff_25]
theorem rise_count : ∀ {R : List Int}, R.Pairwise (· < ·) → ∀ {a : Int}, a ∈ R → R.count a = 1
 | [], _, a, h => absurd h (by simp)
 | b :: R, hp, a, h => by
  obtain ⟨h1, h2⟩ := List.pairwise_cons.1 hp
  rw [List.count_cons]
  by_cases hb : b = a
  ·subst hb
   have : R.count b = 0 := List.count_eq_zero.2 fun hm => by have := h1 b hm; omega
   rw [this]; simp
  ·rcases List.mem_cons.1 h with e | e
   ·exact absurd e.symm hb
   ·rw [rise_count h2 e]; simp [hb]
end Go.Proofs.Ytfbdababcdfjfaa

namespace Go.Proofs.Ytfbdababcdfjfaa
open Go.AM Go.AM.Fo
set_option maxRecDepth 100000
def bgB (Z : List (List Int)) (u : List Int) : Bool := Z.any fun w => decide (u.length ≤ w.length) && decide (w.take u.length = u)
def isB (Z : List (List Int)) (u : List Int) : Bool := Z.any fun w => decide (w = u)
def bn (b : Bool) : Int := if b then 1 else 0
theorem bgB_take {Z : List (List Int)} {u : List Int} {i : Nat} (h : i < Z.length) : bgB (Z.take (i + 1)) u = (bgB (Z.take i) u || (decide (u.length ≤ Z[i].length) && decide (Z[i].take u.length = u))) := by
 unfold bgB
 rw [List.take_add_one, List.getElem?_eq_getElem h, List.any_append]
 simp
theorem isB_take {Z : List (List Int)} {u : List Int} {i : Nat} (h : i < Z.length) : isB (Z.take (i + 1)) u = (isB (Z.take i) u || decide (Z[i] = u)) := by
 unfold isB
 rw [List.take_add_one, List.getElem?_eq_getElem h, List.any_append]
 simp
variable {g : Gram}
theorem bg_iff {r : Nat} {Z : List (List Int)} {u : List Int} (hZ : ∀ c, c ∈ Z ↔ LookL g r c) (hu : u.length ≤ 2) : bgB Z u = true ↔ ∃ x, LL' g r (u ++ x) := by
 unfold bgB
 rw [List.any_eq_true]
 constructor
 ·rintro ⟨w, hw, h⟩
  rw [Bool.and_eq_true, decide_eq_true_eq, decide_eq_true_eq] at h
  obtain ⟨z, hz, rfl⟩ := look_ll.1 ((hZ w).1 hw)
  refine ⟨z.drop u.length, ?_⟩
  have h2 := h.2
  rw [List.take_take, Nat.min_eq_left hu] at h2
  have e : u ++ z.drop u.length = z := by
   conv => lhs; rw [← h2]
   rw [List.length_take, Nat.min_eq_left]
   ·exact List.take_append_drop _ _
   ·have h1 := h.1
    rw [List.length_take] at h1
    omega
  rw [e]; exact hz
 ·rintro ⟨x, hx⟩
  refine ⟨(u ++ x).take 2, (hZ _).2 (look_ll.2 ⟨_, hx, rfl⟩), ?_⟩
  rw [Bool.and_eq_true, decide_eq_true_eq, decide_eq_true_eq, List.take_take, Nat.min_eq_left hu]
  refine ⟨by rw [List.length_take, List.length_append]; omega, by simp⟩
theorem is_iff {r : Nat} {Z : List (List Int)} {u : List Int} (hZ : ∀ c, c ∈ Z ↔ LookL g r c) (hu : u.length ≤ 1) : isB Z u = true ↔ LL' g r u := by
 unfold isB
 rw [List.any_eq_true]
 constructor
 ·rintro ⟨w, hw, h⟩
  rw [decide_eq_true_eq] at h
  subst h
  obtain ⟨z, hz, e⟩ := look_ll.1 ((hZ w).1 hw)
  have hl : z.length ≤ 1 := by
   have := congrArg List.length e
   rw [List.length_take] at this
   omega
  rw [List.take_of_length_le (by omega)] at e
  rw [e]; exact hz
 ·intro h
  exact ⟨u, (hZ u).2 (look_ll.2 ⟨u, h, (List.take_of_length_le (by omega)).symm⟩), by simp⟩
theorem count_bn {l : List Cfg} {RR : List Int} (h : AltsL l RR) {a : Int} {b : Bool} (hb : (∃ c ∈ l, c.alt = a) ↔ b = true) : ((RR.count a : Nat) : Int) = bn b := by
 by_cases hm : a ∈ RR
 ·rw [rise_count h.1 hm]
  have : b = true := hb.1 (by
   obtain ⟨c, hc, e⟩ := List.mem_map.1 ((h.2 a).1 hm)
   exact ⟨c, hc, e⟩)
  rw [this]; rfl
 ·rw [List.count_eq_zero.2 hm]
  have : b = false := by
   cases hbb : b with
   | false => rfl
   | true =>
    obtain ⟨c, hc, e⟩ := hb.2 hbb
    exact absurd ((h.2 a).2 (List.mem_map.2 ⟨c, hc, e⟩)) hm
  rw [this]; rfl
theorem altsL_len {n : Nat} {l : List Cfg} {RR : List Int} (h : AltsL l RR) (hl : ∀ c ∈ l, 0 ≤ c.alt ∧ c.alt < (n : Int)) : RR.length ≤ n := by
 rcases rise_len (N := (n : Int)) RR 0 h.1 (fun a ha => by
  obtain ⟨c, hc, rfl⟩ := List.mem_map.1 ((h.2 a).1 ha)
  exact hl c hc) with h | h
 ·omega
 ·rw [h]; simp
structure LSt (g : Gram) (v : Int) (u : List Int) (H : Heap) (p : Option Addr) (R : List CA) : Prop where
 ex : ∃ l A, Bh g v u l ∧ Full g (callsL g) 8 200 l A ∧ R.map (·.1) = A.filter fun c => !idle g c
 srt : Srt R
 row : RN 4 ccell H p R
 xc : ∀ z ∈ R, XC H z
 gc : ∀ z ∈ R, GC g z.1
 alt : ∀ z ∈ R, AltOK g z.1
 len : R.length ≤ 200
 dp : ∀ z ∈ R, z.1.stack.length ≤ 8
theorem LSt.mono {n n' : Nat} {v : Int} {u : List Int} {H H' : Heap} {p : Option Addr} {R : List CA} (h : LSt g v u H p R) (hw : WF n H) (k : Kp n H n' H') : LSt g v u H' p R :=
 ⟨h.ex, h.srt, h.row.mono hw k, fun z hz => (h.xc z hz).keep (Kp.spk hw k), h.gc, h.alt, h.len, h.dp⟩
theorem LSt.begins {v : Int} {u : List Int} {H : Heap} {p : Option Addr} {R : List CA} (h : LSt g v u H p R) (hg : InG g) (hu : AllUse g) (hcl : ∀ x ∈ callsL g, ∀ s ∈ x, VS g s) {r : Nat} (hr : r < g.rules.length) (hv : lft g r = v) : (∃ c ∈ R.map (·.1), c.alt = (r : Int)) ↔ ∃ x, LL' g r (u ++ x) := by
 obtain ⟨l, A, hb, hf, e⟩ := h.ex
 rw [← hb.begins hg hu hcl hf hr hv, e]
 constructor
 ·rintro ⟨c, hc, ha⟩
  rw [List.mem_filter] at hc
  exact ⟨c, hc.1, by simpa using hc.2, ha⟩
 ·rintro ⟨c, hc, hi, ha⟩
  exact ⟨c, List.mem_filter.2 ⟨hc, by simpa using hi⟩, ha⟩
theorem LSt.is {v : Int} {u : List Int} {H : Heap} {p : Option Addr} {R : List CA} (h : LSt g v u H p R) (hg : InG g) (hcl : ∀ x ∈ callsL g, ∀ s ∈ x, VS g s) {r : Nat} (hr : r < g.rules.length) (hv : lft g r = v) : (∃ c ∈ (R.filter fun x => decide (nextL g x.1 = -1)).map (·.1), c.alt = (r : Int)) ↔ LL' g r u := by
 obtain ⟨l, A, hb, hf, e⟩ := h.ex
 rw [← hb.is hg hcl hf hr hv]
 have hm : ∀ c, c ∈ R.map (·.1) ↔ c ∈ A.filter fun c => !idle g c := fun c => by rw [e]
 constructor
 ·rintro ⟨c, hc, ha⟩
  obtain ⟨z, hz, rfl⟩ := List.mem_map.1 hc
  rw [List.mem_filter] at hz
  have h1 := (hm z.1).1 (List.mem_map.2 ⟨z, hz.1, rfl⟩)
  exact ⟨z.1, (List.mem_filter.1 h1).1, by simpa using hz.2, ha⟩
 ·rintro ⟨c, hc, hn, ha⟩
  obtain ⟨z, hz, e2⟩ := List.mem_map.1 ((hm c).2 (List.mem_filter.2 ⟨hc, by unfold idle; rw [hn]; rfl⟩))
  subst e2
  exact ⟨z.1, List.mem_map.2 ⟨z, List.mem_filter.2 ⟨hz, by simpa using hn⟩, rfl⟩, ha⟩
theorem rch_alt {l : List Cfg} {c : Cfg} (hl : ∀ c ∈ l, AltOK g c) (h : RchC g (callsL g) l c) : AltOK g c :=
 h.alt (P := fun a => 0 ≤ a ∧ a < g.rules.length) fun c hc => hl c hc
theorem LSt.of {v : Int} {u : List Int} {H : Heap} {p : Option Addr} {l : List Cfg} {S R : List CA} (hb : Bh g v u l) (hc : Clo g (callsL g) 8 200 l true S) (hS : Srt S) (hm : S.length ≤ 200) (hd : ∀ x ∈ S, x.1.stack.length ≤ 8) (hgc : ∀ x ∈ S, GC g x.1) (hR : R = S.filter (fun x => !idle g x.1)) (hp : RN 4 ccell H p R) (hx : ∀ x ∈ R, XC H x) : LSt g v u H p R := by
 have hfu := hc.spec.1 rfl
 have hmR : ∀ x ∈ R, x ∈ S := fun x hx => by
  rw [hR, List.mem_filter] at hx
  exact hx.1
 refine ⟨⟨l, _, hb, hfu, ?_⟩, by rw [hR]; exact List.Pairwise.filter _ hS, hp, hx, fun z hz => hgc z (hmR z hz), fun z hz => rch_alt (fun c hc => ?_) ((hfu.mem z.1).1 (List.mem_map.2 ⟨z, hmR z hz, rfl⟩)), by rw [hR]; exact Nat.le_trans (List.length_filter_le _ _) hm, fun z hz => hd z (hmR z hz)⟩
 ·rw [hR, List.filter_map]; rfl
 ·obtain ⟨r, hr, _, e, _⟩ := hb.back c hc
  exact ⟨by omega, by omega⟩
theorem bh_start (ok : RightOK g) {v : Int} : Bh g v [] ((startL g v).map (·.1)) := by
 have hm := startL_map ok v
 refine Bh.first (fun c => ?_) fun r hr => ?_
 ·rw [hm]
  constructor
  ·intro hc
   obtain ⟨r, hr, rfl⟩ := List.mem_map.1 hc
   unfold ruleIx at hr
   rw [List.mem_filter, List.mem_range] at hr
   refine ⟨r, hr.1, ?_, rfl⟩
   have h2 := hr.2
   rw [List.getElem?_eq_getElem hr.1] at h2
   rw [lft_eq hr.1]
   simpa using h2
  ·rintro ⟨r, hr, hl, rfl⟩
   refine List.mem_map.2 ⟨r, ?_, rfl⟩
   unfold ruleIx
   rw [List.mem_filter, List.mem_range, List.getElem?_eq_getElem hr]
   rw [lft_eq hr] at hl
   exact ⟨hr, by simp [hl]⟩
 ·refine ⟨⟨by show (r : Int) < _; omega, fun x _ hx => ?_⟩, fun s hs => by cases hs⟩
  exact ⟨Int.le_refl _, by show (0 : Int) ≤ _; omega⟩
theorem rn_kx {n n' y : Nat} {H H' : Heap} {p : Option Addr} {L : List CA} {cs : List Value} {ty : TypeId} {own : Bool} (h : RN 4 ccell H p L) (hL : L ≠ []) (hw : WF n H) (hy : H y = .cells cs ty own) (hc : cs.length < 4) (k : Kx (fun z => z = y) n H n' H') : RN 4 ccell H' p L := by
 rcases h with ⟨_, h⟩ | ⟨x, kx, ds, t, o, e1, e2, e3, e4⟩
 ·exact absurd h hL
 ·refine .inr ⟨x, kx, ds, t, o, e1, (k.keep x (live_lt hw (live_of e2)) ?_).trans e2, e3, e4⟩
  rintro rfl
  rw [hy] at e2
  cases e2
  have := List.length_pos_iff.2 hL
  omega
theorem spk_int {n n' y : Nat} {H H' : Heap} {cs : List Value} (hw : WF n H) (hy : H y = .cells cs 3 true) (k : Kx (fun z => z = y) n H n' H') : SpK H H' := fun z _ _ hz => (k.keep z (live_lt hw (live_of hz)) (by rintro rfl; rw [hy] at hz; simp at hz)).trans hz
end Go.Proofs.Ytfbdababcdfjfaa
