/- A part of a proof. Its conditions: none. -/
import Derived.Test.YtfbdababcdfjfaaAmNAtSet
import Derived.Test.YtfbdababcdfjfaaAmC
import Derived.Test.YtfbdababcdfjfaaAmNAtAh
set_option linter.all false
namespace Go.Proofs.Ytfbdababcdfjfaa
open Go.AM Go.AM.Fo
set_option maxRecDepth 100000
inductive Ac (g : Gram) : Cfg → List Int → Prop where
 | fin {c : Cfg} (h : c.rule = -1) : Ac g c []
 | step {c d : Cfg} {u : List Int} (h : d ∈ stepL g (callsL g) c) (k : Ac g d u) : Ac g c u
 | read {c : Cfg} {t : Int} {u : List Int} (h0 : 0 ≤ t) (h : nextL g c = t) (k : Ac g (mvC c) u) : Ac g c (t :: u)
theorem Ac.run {g : Gram} {c : Cfg} {u : List Int} (h : Ac g c u) : ∃ c', (∀ l, RchC g (callsL g) l c → RchC g (callsL g) l c') ∧ c'.alt = c.alt ∧ ((u = [] ∧ nextL g c' = -1) ∨ ∃ t u', u = t :: u' ∧ 0 ≤ t ∧ nextL g c' = t ∧ Ac g (mvC c') u') := by
 induction h with
 | @fin c h => exact ⟨c, fun _ h => h, rfl, .inl ⟨rfl, by unfold nextL; rw [if_pos (by omega)]⟩⟩
 | step h _ ih =>
  obtain ⟨c', h1, h2, h3⟩ := ih
  exact ⟨c', fun l hl => h1 l (.step hl h), h2.trans (step_alt h), h3⟩
 | @read c t u h0 h k _ => exact ⟨c, fun _ h => h, rfl, .inr ⟨t, u, rfl, h0, h, k⟩⟩
variable {g : Gram}
theorem rgt_eq {r : Nat} (h : r < g.rules.length) : rgt g r = g.rules[r].right := by unfold rgt; rw [List.getElem?_eq_getElem h]; rfl
theorem lft_eq {r : Nat} (h : r < g.rules.length) : lft g r = g.rules[r].left := by unfold lft; rw [List.getElem?_eq_getElem h]; rfl
theorem rule_get {r : Nat} (h : r < g.rules.length) : g.rules[((r : Nat) : Int).toNat]? = some g.rules[r] := by rw [Int.toNat_natCast, List.getElem?_eq_getElem h]
theorem step_in {a : Int} {r i k : Nat} {st : List (Int × Int)} (hr : r < g.rules.length) (hi : i < (rgt g r).length) (hk : k < g.rules.length) (h0 : 0 ≤ lft g k) (h : (rgt g r)[i] = lft g k) :
  (⟨a, (k : Nat), 0, if st = [] ∨ i + 1 < (rgt g r).length then st ++ [((r : Int), ((i + 1 : Nat) : Int))] else st⟩ : Cfg) ∈ stepL g (callsL g) ⟨a, (r : Nat), (i : Nat), st⟩ := by
 have hR := rgt_eq hr
 have hi' : i < g.rules[r].right.length := by rw [← hR]; exact hi
 have hs : g.rules[r].right[i]? = some (lft g k) := by
  rw [← h, ← hR]; exact List.getElem?_eq_getElem hi
 unfold stepL
 rw [if_neg (by show ¬ ((r : Nat) : Int) < 0; omega)]
 simp only [rule_get hr]
 rw [if_neg (by omega)]
 simp only [Int.toNat_natCast, hs]
 rw [if_pos h0]
 refine List.mem_map.2 ⟨k, ?_, ?_⟩
 ·unfold ruleIx
  rw [List.mem_filter, List.mem_range]
  refine ⟨hk, ?_⟩
  rw [List.getElem?_eq_getElem hk, lft_eq hk]
  simp
 ·unfold stkL
  rw [hR]
  simp only
  by_cases hc : st = [] ∨ i + 1 < g.rules[r].right.length
  ·rw [if_pos hc, if_pos (by rcases hc with h | h; exact .inl h; exact .inr (by omega))]
   rfl
  ·rw [if_neg hc, if_neg (by rintro (h | h); exact hc (.inl h); exact hc (.inr (by omega)))]
theorem step_pop {a : Int} {r : Nat} {st : List (Int × Int)} {s : Int × Int} (hr : r < g.rules.length) : (⟨a, s.1, s.2, st⟩ : Cfg) ∈ stepL g (callsL g) ⟨a, (r : Nat), ((rgt g r).length : Nat), st ++ [s]⟩ := by
 unfold stepL
 rw [if_neg (by show ¬ ((r : Nat) : Int) < 0; omega)]
 simp only [rule_get hr]
 rw [if_pos (by rw [rgt_eq hr])]
 unfold backL
 simp
theorem step_end {a : Int} {r : Nat} (hr : r < g.rules.length) (h0 : lft g r = 0) : (⟨a, -1, 0, []⟩ : Cfg) ∈ stepL g (callsL g) ⟨a, (r : Nat), ((rgt g r).length : Nat), []⟩ := by
 unfold stepL
 rw [if_neg (by show ¬ ((r : Nat) : Int) < 0; omega)]
 simp only [rule_get hr]
 rw [if_pos (by rw [rgt_eq hr])]
 unfold backL
 simp only [List.getLast?_nil, rule_get hr]
 rw [lft_eq hr] at h0
 rw [if_pos h0]
 simp
theorem step_call {a : Int} {r k j : Nat} (hr : r < g.rules.length) (hv : 0 ≤ lft g r ∧ lft g r < g.vars.length) (hk : k < g.rules.length) (hj : j < (rgt g k).length) (h : (rgt g k)[j] = lft g r) : (⟨a, (k : Nat), ((j + 1 : Nat) : Int), []⟩ : Cfg) ∈ stepL g (callsL g) ⟨a, (r : Nat), ((rgt g r).length : Nat), []⟩ := by
  unfold stepL
  rw [if_neg (by show ¬ ((r : Nat) : Int) < 0; omega)]
  simp only [rule_get hr]
  rw [if_pos (by rw [rgt_eq hr])]
  unfold backL
  simp only [List.getLast?_nil, rule_get hr]
  rw [lft_eq hr] at hv h
  refine List.mem_append_right _ (List.mem_map.2 ⟨((k : Int), ((j + 1 : Nat) : Int)), ?_, rfl⟩)
  unfold callsL
  rw [List.getD_eq_getElem?_getD, List.getElem?_map, List.getElem?_range (by omega)]
  show _ ∈ callsN g g.rules.length g.rules[r].left.toNat
  unfold callsN
  refine List.mem_flatMap.2 ⟨k, List.mem_range.2 hk, ?_⟩
  simp only [List.getElem?_eq_getElem hk]
  unfold rowT
  refine List.mem_filterMap.2 ⟨j, ?_, ?_⟩
  · rw [List.mem_range, ← rgt_eq hk]; exact hj
  · have e : g.rules[k].right[j]? = some (g.rules[r].left) := by
      rw [← h, List.getElem?_eq_getElem (by rw [← rgt_eq hk]; exact hj)]
      simp only [rgt_eq hk]
    rw [e, if_pos (by congr 1; omega)]
theorem next_term {a s : Int} {r i : Nat} {st : List (Int × Int)} (hr : r < g.rules.length) (hi : i < (rgt g r).length) (h : (rgt g r)[i] = s) (hs : s < 0) : nextL g ⟨a, (r : Nat), (i : Nat), st⟩ = -s - 1 := by
 have hi' : i < g.rules[r].right.length := by rw [← rgt_eq hr]; exact hi
 have hs' : g.rules[r].right[i]? = some s := by
  rw [← h, List.getElem?_eq_getElem hi']
  simp only [rgt_eq hr]
 unfold nextL
 rw [if_neg (by show ¬ ((r : Nat) : Int) < 0; omega)]
 simp only [rule_get hr]
 rw [if_neg (by omega)]
 simp only [Int.toNat_natCast, hs']
 rw [if_neg (by omega)]
def Rt (g : Gram) (a : Int) (r : Nat) (st : List (Int × Int)) (v : List Int) : Prop :=
 (st = [] ∧ Ac g ⟨a, (r : Nat), ((rgt g r).length : Nat), []⟩ v) ∨ ∃ st0 s, st = st0 ++ [s] ∧ Ac g ⟨a, s.1, s.2, st0⟩ v
theorem ac_rule (hg : InG g) {f d u : List Int} (h : Dv g f d u) : ∀ (a : Int) (r i : Nat) (st : List (Int × Int)) (v : List Int), r < g.rules.length → i ≤ (rgt g r).length → f = (rgt g r).drop i → Rt g a r st v → Ac g ⟨a, (r : Nat), (i : Nat), st⟩ (u ++ v) := by
 induction h with
 | nil =>
  intro a r i st v hr hi hf hv
  have hil : i = (rgt g r).length := by
   have := congrArg List.length hf
   rw [List.length_drop] at this
   simp at this; omega
  subst hil
  rcases hv with ⟨rfl, hv⟩ | ⟨st0, s, rfl, hv⟩
  ·exact hv
  ·exact .step (step_pop hr) hv
 | @term s l d w hs k ih =>
  intro a r i st v hr hi hf hv
  have hil : i < (rgt g r).length := by
   apply Classical.byContradiction
   intro hc
   rw [List.drop_of_length_le (by omega)] at hf
   cases hf
  rw [List.drop_eq_getElem_cons hil] at hf
  obtain ⟨e1, e2⟩ := List.cons.inj hf
  refine .read (by omega) (next_term hr hil e1.symm hs) ?_
  have := ih a r (i + 1) st v hr hil e2 hv
  exact this
 | @var k l d1 d2 w1 w2 hk x y ihx ihy =>
  intro a r i st v hr hi hf hv
  have hil : i < (rgt g r).length := by
   apply Classical.byContradiction
   intro hc
   rw [List.drop_of_length_le (by omega)] at hf
   cases hf
  rw [List.drop_eq_getElem_cons hil] at hf
  obtain ⟨e1, e2⟩ := List.cons.inj hf
  have h0 : 0 ≤ lft g k := by rw [lft_eq hk]; exact hg.left0 _ (List.getElem_mem hk)
  refine .step (step_in hr hil hk h0 e1.symm) ?_
  rw [List.append_assoc]
  by_cases hc : st = [] ∨ i + 1 < (rgt g r).length
  ·rw [if_pos hc]
   exact ihx a k 0 _ _ hk (Nat.zero_le _) (by rw [List.drop_zero]) (.inr ⟨st, _, rfl, ihy a r (i + 1) st v hr hil e2 hv⟩)
  ·rw [if_neg hc]
   have hl : l = [] := by rw [e2]; exact List.drop_of_length_le (by omega)
   rw [hl] at y
   obtain ⟨_, rfl⟩ := y.nil_inv
   rcases hv with ⟨h, _⟩ | ⟨st0, s, h, hv⟩
   ·exact absurd (.inl h) hc
   ·exact ihx a k 0 _ _ hk (Nat.zero_le _) (by rw [List.drop_zero]) (.inr ⟨st0, s, h, hv⟩)
inductive Cx (g : Gram) : Int → List Int → Prop where
 | root : Cx g 0 []
 | sub {k j : Nat} {F : List Int} (hk : k < g.rules.length) (hj : j < (rgt g k).length) (h : Cx g (lft g k) F) : Cx g (rgt g k)[j] ((rgt g k).drop (j + 1) ++ F)
theorem ac_end (hg : InG g) {A : Int} {F : List Int} (h : Cx g A F) : ∀ (d y : List Int), Dv g F d y → ∀ (a : Int) (r : Nat), r < g.rules.length → lft g r = A → Ac g ⟨a, (r : Nat), ((rgt g r).length : Nat), []⟩ y := by
 induction h with
 | root =>
  intro d y hd a r hr hl
  obtain ⟨_, rfl⟩ := hd.nil_inv
  exact .step (step_end hr hl) (.fin rfl)
 | @sub k j F hk hj h ih =>
  intro d y hd a r hr hl
  obtain ⟨d1, d2, y1, y2, rfl, rfl, h1, h2⟩ := hd.split rfl
  refine .step (step_call hr ⟨?_, ?_⟩ hk hj hl.symm) ?_
  ·rw [lft_eq hr]; exact hg.left0 _ (List.getElem_mem hr)
  ·rw [lft_eq hr]; exact hg.left1 _ (List.getElem_mem hr)
  ·exact ac_rule hg h1 a k (j + 1) [] y2 hk hj rfl (.inl ⟨rfl, ih d2 y2 h2 a k hk rfl⟩)
end Go.Proofs.Ytfbdababcdfjfaa

namespace Go.Proofs.Ytfbdababcdfjfaa
open Go.AM Go.AM.Fo
set_option maxRecDepth 100000
def wsum (l : List SA) : Nat := (l.map fun x => x.1.length).sum
theorem wsum_snoc (l : List SA) (x : SA) : wsum (l ++ [x]) = wsum l + x.1.length := by unfold wsum; simp
theorem wsum_le {l : List SA} {m : Nat} (h : ∀ x ∈ l, x.1.length ≤ m) : wsum l ≤ l.length * m := by
 induction l with
 | nil => simp [wsum]
 | cons a l ih =>
  have h1 := ih fun x hx => h x (List.mem_cons_of_mem _ hx)
  have h2 := h a (List.mem_cons_self ..)
  have e : wsum (a :: l) = a.1.length + wsum l := by unfold wsum; simp
  rw [e, List.length_cons, Nat.succ_mul]; omega
theorem wsum_set : ∀ {l : List SA} {i : Nat} (h : i < l.length) (x : SA), wsum (l.set i x) + l[i].1.length = wsum l + x.1.length
 | [], _, h, _ => absurd h (by simp)
 | a :: l, 0, _, x => by unfold wsum; simp; omega
 | a :: l, i + 1, h, x => by
  have ih := wsum_set (l := l) (i := i) (by simpa using h) x
  have e1 : wsum ((a :: l).set (i + 1) x) = a.1.length + wsum (l.set i x) := by unfold wsum; simp
  have e2 : wsum (a :: l) = a.1.length + wsum l := by unfold wsum; simp
  have e3 : (a :: l)[i + 1] = l[i]'(by simpa using h) := rfl
  rw [e1, e2, e3]; omega
set_option maxHeartbeats 4000000 in
theorem words10_gives {n : Nat} {H : Heap} {pF pO : Option Addr} {Fs Os : List SA} (hw : WF n H) (hF : RowS H pF Fs) (hO : RowS H pO Os) (hl : Fs.length ≤ 64) (hol : Os.length = Fs.length) :
  Gives Try.prog 52 [sagg pF pO Fs.length Os.length] n H fun v _ _ => v = .int .i64 ((wsum Fs + wsum Os : Nat) : Int) := by
 refine Gives.of orders ok52 (Nat.le_of_ble_eq_true rfl) ?_
 unfold sagg
 repeat refine qqn rfl ?_
 (refine qqr ?_; simp only [SS, qx22, simprocAttr, abox, one, ff_52])
 have k1 := Kp.new n H (.cells [.int .i64 2, .slice pF Fs.length Fs.length, .slice pO Os.length Os.length] 60 true)
 have hb := hset_at H n (.cells [.int .i64 2, .slice pF Fs.length Fs.length, .slice pO Os.length Os.length] 60 true)
 generalize hset H n (.cells [.int .i64 2, .slice pF Fs.length Fs.length, .slice pO Os.length Os.length] 60 true) = H1 at *
 have hF1 := hF.mono hw k1
 have hO1 := hO.mono hw k1
 have hFb : ∀ x ∈ Fs, x.1.length ≤ 43 := fun x hx => (hF.s x hx).len
 have hOb : ∀ x ∈ Os, x.1.length ≤ 43 := fun x hx => (hO.s x hx).len
 repeat (first | refine qqm rfl ?_ | ((first | refine qqr ?_ | refine qqt ?_); simp only [SS, qx22, simprocAttr, ff_52]))
 refine WK.loop (fun kk s => ∃ j : Nat, s.n = n + 1 ∧ s.H = H1 ∧ s.f 1 = .pointer (some ⟨n, 0, none⟩) ∧ s.f 3 = .int .i64 ((wsum (Fs.take j) + wsum (Os.take j) : Nat) : Int) ∧ s.f 4 = .int .i64 (j : Nat) ∧ j ≤ Fs.length ∧ kk = Fs.length - j) Fs.length ?_ ?_
 ·exact ⟨0, rfl, rfl, rfl, rfl, rfl, Nat.zero_le _, rfl⟩
 rintro kk ⟨f, n3, H3⟩ ⟨j, e1, e2, f1, f3, f4, hjl, rfl⟩ ih
 simp only at e1 e2 f1 f3 f4 ih
 subst e1 e2
 by_cases hlt : j < Fs.length
 ·have hjw : IntKind.i64.wrap ((j : Int) + 1) = ((j + 1 : Nat) : Int) := by rw [wrap_in (by omega) (by omega)]; rfl
  have hlt2 : j < Os.length := by omega
  obtain ⟨z, kz, cs, tz, oz, e0, hz, e⟩ := hF1.at hlt
  obtain ⟨z', kz', cs', tz', oz', e0', hz', e'⟩ := hO1.at hlt2
  have b1 : wsum (Fs.take j) ≤ 64 * 43 := Nat.le_trans (wsum_le fun x hx => hFb x (List.mem_of_mem_take hx)) (Nat.mul_le_mul_right _ (by rw [List.length_take]; omega))
  have b2 : wsum (Os.take j) ≤ 64 * 43 := Nat.le_trans (wsum_le fun x hx => hOb x (List.mem_of_mem_take hx)) (Nat.mul_le_mul_right _ (by rw [List.length_take]; omega))
  have b3 := hFb _ (List.getElem_mem hlt)
  have b4 := hOb _ (List.getElem_mem hlt2)
  have t1 : wsum (Fs.take (j + 1)) = wsum (Fs.take j) + Fs[j].1.length := by
   rw [List.take_add_one, List.getElem?_eq_getElem hlt]; exact wsum_snoc _ _
  have t2 : wsum (Os.take (j + 1)) = wsum (Os.take j) + Os[j].1.length := by
   rw [List.take_add_one, List.getElem?_eq_getElem hlt2]; exact wsum_snoc _ _
  have w1 : IntKind.i64.wrap (((wsum (Fs.take j) + wsum (Os.take j) : Nat) : Int) + (Fs[j].1.length : Int)) = ((wsum (Fs.take j) + wsum (Os.take j) + Fs[j].1.length : Nat) : Int) := by rw [wrap_in (by omega) (by omega)]; omega
  have w2 : IntKind.i64.wrap (((wsum (Fs.take j) + wsum (Os.take j) + Fs[j].1.length : Nat) : Int) + (Os[j].1.length : Int)) = ((wsum (Fs.take (j + 1)) + wsum (Os.take (j + 1)) : Nat) : Int) := by rw [wrap_in (by omega) (by omega)]; omega
  repeat (first | refine qqm rfl ?_ | ((first | refine qqr ?_ | refine qqt ?_); simp only [SS, qx22, simprocAttr, f1, f3, f4, hlt, hb, e0, e0', hz, hz', e, e', hol, w1, w2, hjw, ff_52]))
  refine ih (Fs.length - (j + 1)) (by omega) _ ?_
  exact ⟨j + 1, rfl, rfl, f1, rfl, rfl, hlt, rfl⟩
 ·obtain rfl : j = Fs.length := by omega
  have t2 : Os.take Fs.length = Os := by rw [← hol]; exact List.take_length
  rw [List.take_length, t2] at f3
  repeat (first | refine qqm rfl ?_ | ((first | refine qqr ?_ | refine qqt ?_); simp only [SS, qx22, simprocAttr, f1, f3, f4, hlt, hb, ff_52]))
  first | refine qqf ?_ ?_ | refine qqg ?_ ?_
  ·exact k1.keep
  ·simp only [packed, qv, Nat.reduceEqDiff, ↓reduceIte, ff_52]
structure SoundS (g : Gram) (Fs Os : List SA) : Prop where
 f : ∀ (v : Nat) x, Fs[v]? = some x → ∀ c ∈ x.1.map (·.1), ∃ d w, Dv g [(v : Int)] d w ∧ c = w.take 2
 o : ∀ (v : Nat) x, Os[v]? = some x → ∀ c ∈ x.1.map (·.1), ∃ F d u, Cx g (v : Int) F ∧ Dv g F d u ∧ c = u.take 2
theorem take2 (a b : List Int) : (a.take 2 ++ b.take 2).take 2 = (a ++ b).take 2 := by
 match a with
 | [] => simp [List.take_take]
 | [x] => cases b with
  | nil => rfl
  | cons y b => rfl
 | x :: y :: a => rfl
theorem formP_sound {g : Gram} {F : Int → List Int → Prop} (hF : ∀ s c, 0 ≤ s → F s c → ∃ d w, Dv g [s] d w ∧ c = w.take 2) : ∀ (n : Nat) (form : List Int), form.length = n → ∀ c, formP F form c → ∃ d w, Dv g form d w ∧ c = w.take 2
 | 0, form, h, c, hc => by
  obtain rfl := List.eq_nil_of_length_eq_zero h
  exact ⟨[], [], .nil, by simpa [formP] using hc⟩
 | n + 1, form, h, c, hc => by
  obtain ⟨fm, s, rfl⟩ : ∃ fm s, form = fm ++ [s] := by
   rcases List.eq_nil_or_concat form with e | ⟨a, b, e⟩
   ·rw [e] at h; simp at h
   ·exact ⟨a, b, by rw [e, List.concat_eq_append]⟩
  rw [formP_snoc] at hc
  obtain ⟨a, ha, b, hb, rfl⟩ := hc
  obtain ⟨d1, w1, h1, rfl⟩ := formP_sound hF n fm (by simpa using h) a ha
  have : ∃ d w, Dv g [s] d w ∧ b = w.take 2 := by
   unfold symP at hb
   by_cases h0 : 0 ≤ s
   ·rw [if_pos h0] at hb; exact hF s b h0 hb
   ·rw [if_neg h0] at hb
    exact ⟨[], [-s - 1], .term (by omega) .nil, hb⟩
  obtain ⟨d2, w2, h2, rfl⟩ := this
  exact ⟨d1 ++ d2, w1 ++ w2, h1.append h2, take2 _ _⟩
theorem aheadP_sound {g : Gram} {F : Int → List Int → Prop} {T : List Int → Prop} (hF : ∀ s c, 0 ≤ s → F s c → ∃ d w, Dv g [s] d w ∧ c = w.take 2) {form c : List Int} (h : aheadP F form T c) : ∃ d w b, Dv g form d w ∧ T b ∧ c = (w.take 2 ++ b).take 2 := by
 obtain ⟨a, ha, b, hb, rfl⟩ := h
 obtain ⟨d, w, h1, rfl⟩ := formP_sound hF _ form rfl a ha
 exact ⟨d, w, b, h1, hb, rfl⟩
structure ClosedS (g : Gram) (Fs Os : List SA) : Prop where
 f : ∀ i, i < g.rules.length → ∀ c, aheadP (setP Fs) (rgt g i) (fun c => c = []) c → setP Fs (lft g i) c
 o : ∀ i j (hj : j < (rgt g i).length), i < g.rules.length → 0 ≤ (rgt g i)[j] → ∀ c, aheadP (setP Fs) ((rgt g i).drop (j + 1)) (setP Os (lft g i)) c → setP Os (rgt g i)[j] c
 r : setP Os 0 []
theorem fold_full {g : Gram} (hg : InG g) {Fs Os : List SA} (hc : ClosedS g Fs Os) {form d w : List Int} (h : Dv g form d w) : ∀ (A : List Int → Prop) (a : List Int), A a → a.length ≤ 2 → (form.foldl (fun A s => tms 2 A (symP (setP Fs) s)) A) ((a ++ w).take 2) := by
 induction h with
 | nil =>
  intro A a ha hl
  rw [List.append_nil, List.take_of_length_le hl]
  exact ha
 | @term s l d w hs k ih =>
  intro A a ha hl
  have := ih (tms 2 A (symP (setP Fs) s)) ((a ++ [-s - 1]).take 2) ⟨a, ha, [-s - 1], by unfold symP; rw [if_neg (by omega)], rfl⟩ (by rw [List.length_take]; omega)
  rw [List.foldl_cons]
  have e : ((a ++ [-s - 1]).take 2 ++ w).take 2 = (a ++ (-s - 1) :: w).take 2 := by
   rw [← take2, List.take_take, Nat.min_self, take2, List.append_assoc]; rfl
  rw [← e]; exact this
 | @var i l d1 d2 w1 w2 hi x k ihx ihk =>
  intro A a ha hl
  have h0 : 0 ≤ lft g i := by rw [lft_eq hi]; exact hg.left0 _ (List.getElem_mem hi)
  have h1 := ihx (fun c => c = []) [] rfl (by simp)
  rw [List.nil_append] at h1
  have h2 := hc.f i hi (w1.take 2) ⟨w1.take 2, h1, [], rfl, by simp [List.take_take]⟩
  have := ihk (tms 2 A (symP (setP Fs) (lft g i))) ((a ++ w1.take 2).take 2) ⟨a, ha, w1.take 2, by unfold symP; rw [if_pos h0]; exact h2, rfl⟩ (by rw [List.length_take]; omega)
  rw [List.foldl_cons]
  have e : ((a ++ w1.take 2).take 2 ++ w2).take 2 = (a ++ (w1 ++ w2)).take 2 := by
   have e1 : (a ++ w1.take 2).take 2 = (a ++ w1).take 2 := by
    rw [← take2 a (w1.take 2), List.take_take, Nat.min_self, take2]
   rw [e1, ← take2, List.take_take, Nat.min_self, take2, List.append_assoc]
  rw [← e]; exact this
theorem aheadP_full {g : Gram} (hg : InG g) {Fs Os : List SA} (hc : ClosedS g Fs Os) {form d w : List Int} (h : Dv g form d w) {T : List Int → Prop} {u : List Int} (ht : T (u.take 2)) : aheadP (setP Fs) form T ((w ++ u).take 2) := by
 have h1 := fold_full hg hc h (fun c => c = []) [] rfl (by simp)
 rw [List.nil_append] at h1
 exact ⟨w.take 2, h1, u.take 2, ht, (take2 w u).symm⟩
theorem follow_full {g : Gram} (hg : InG g) {Fs Os : List SA} (hc : ClosedS g Fs Os) {A : Int} {F : List Int} (h : Cx g A F) : ∀ d u, Dv g F d u → 0 ≤ A → setP Os A (u.take 2) := by
 induction h with
 | root =>
  intro d u hd _
  obtain ⟨_, rfl⟩ := hd.nil_inv
  exact hc.r
 | @sub k j F hk hj h ih =>
  intro d u hd h0
  obtain ⟨d1, d2, u1, u2, rfl, rfl, h1, h2⟩ := hd.split rfl
  have hl : 0 ≤ lft g k := by rw [lft_eq hk]; exact hg.left0 _ (List.getElem_mem hk)
  exact hc.o k j hj hk h0 _ (aheadP_full hg hc h1 (ih d2 u2 h2 hl))
def LookL (g : Gram) (r : Nat) (c : List Int) : Prop := ∃ d w F e u, Dv g (rgt g r) d w ∧ Cx g (lft g r) F ∧ Dv g F e u ∧ c = (w ++ u).take 2
theorem SoundS.fP {g : Gram} {Fs Os : List SA} (h : SoundS g Fs Os) : ∀ s c, 0 ≤ s → setP Fs s c → ∃ d w, Dv g [s] d w ∧ c = w.take 2 := by
 rintro s c h0 ⟨x, hx, hc⟩
 obtain ⟨v, rfl⟩ : ∃ v : Nat, s = v := ⟨s.toNat, by omega⟩
 exact h.f v x (by simpa using hx) c hc
theorem SoundS.oP {g : Gram} {Fs Os : List SA} (h : SoundS g Fs Os) : ∀ s c, 0 ≤ s → setP Os s c → ∃ F d u, Cx g s F ∧ Dv g F d u ∧ c = u.take 2 := by
 rintro s c h0 ⟨x, hx, hc⟩
 obtain ⟨v, rfl⟩ : ∃ v : Nat, s = v := ⟨s.toNat, by omega⟩
 exact h.o v x (by simpa using hx) c hc
theorem look_iff {g : Gram} (hg : InG g) {Fs Os : List SA} (hs : SoundS g Fs Os) (hc : ClosedS g Fs Os) {r : Nat} (hr : r < g.rules.length) (c : List Int) : aheadP (setP Fs) (rgt g r) (setP Os (lft g r)) c ↔ LookL g r c := by
 have h0 : 0 ≤ lft g r := by rw [lft_eq hr]; exact hg.left0 _ (List.getElem_mem hr)
 constructor
 ·intro h
  obtain ⟨d, w, b, h1, h2, rfl⟩ := aheadP_sound hs.fP h
  obtain ⟨F, e, u, h3, h4, rfl⟩ := hs.oP _ b h0 h2
  exact ⟨d, w, F, e, u, h1, h3, h4, take2 w u⟩
 ·rintro ⟨d, w, F, e, u, h1, h2, h3, rfl⟩
  exact aheadP_full hg hc h1 (follow_full hg hc h2 e u h3 h0)
end Go.Proofs.Ytfbdababcdfjfaa

namespace Go.Proofs.Ytfbdababcdfjfaa
open Go.AM Go.AM.Fo
set_option maxRecDepth 100000
variable {g : Gram}
def rst (g : Gram) (s : Int × Int) : List Int := (rgt g s.1.toNat).drop s.2.toNat
def fmC (g : Gram) (c : Cfg) : List Int := rst g (c.rule, c.dot) ++ c.stack.reverse.flatMap (rst g)
def botC (c : Cfg) : Int := match c.stack with
 | [] => c.rule
 | s :: _ => s.1
def Mn (g : Gram) (c : Cfg) (w : List Int) : Prop := (c.rule < 0 ∧ w = []) ∨ (0 ≤ c.rule ∧ ∃ F d, Cx g (lft g (botC c).toNat) F ∧ Dv g (fmC g c ++ F) d w)
theorem calls_mem {v : Int} {s : Int × Int} (h : s ∈ (callsL g).getD v.toNat []) (h0 : 0 ≤ v) : ∃ (k j : Nat) (hk : k < g.rules.length) (hj : j < (rgt g k).length), s = ((k : Int), ((j + 1 : Nat) : Int)) ∧ (rgt g k)[j] = v := by
 unfold callsL at h
 rw [List.getD_eq_getElem?_getD, List.getElem?_map] at h
 by_cases hv : v.toNat < g.vars.length
 ·rw [List.getElem?_range hv] at h
  change s ∈ callsN g g.rules.length v.toNat at h
  unfold callsN at h
  obtain ⟨k, hk, h⟩ := List.mem_flatMap.1 h
  rw [List.mem_range] at hk
  simp only [List.getElem?_eq_getElem hk] at h
  unfold rowT at h
  obtain ⟨j, hj, h⟩ := List.mem_filterMap.1 h
  rw [List.mem_range] at hj
  rw [List.getElem?_eq_getElem hj] at h
  split at h
  ·rename_i he
   simp only [Option.some.injEq] at h he
   refine ⟨k, j, hk, by rw [rgt_eq hk]; exact hj, h.symm, ?_⟩
   simp only [rgt_eq hk]
   omega
  ·cases h
 ·rw [List.getElem?_eq_none (by simp; omega)] at h
  simp at h
theorem gc_at {c : Cfg} (h : GC g c) (h0 : 0 ≤ c.rule) : ∃ r i : Nat, c.rule = r ∧ c.dot = i ∧ r < g.rules.length ∧ i ≤ (rgt g r).length := by
 obtain ⟨⟨h1, h2⟩, _⟩ := h
 obtain ⟨r, hr⟩ : ∃ r : Nat, c.rule = r := ⟨c.rule.toNat, by omega⟩
 have hl : r < g.rules.length := by omega
 have := h2 g.rules[r] h0 (by rw [hr, Int.toNat_natCast, List.getElem?_eq_getElem hl])
 exact ⟨r, c.dot.toNat, hr, by omega, hl, by rw [rgt_eq hl]; omega⟩
theorem mn_step (hg : InG g) {c d : Cfg} {u : List Int} (hc : GC g c) (hd : d ∈ stepL g (callsL g) c) (h : Mn g d u) : Mn g c u := by
  by_cases h0 : c.rule < 0
  · unfold stepL at hd
    rw [if_pos h0] at hd; simp at hd
  · obtain ⟨r, i, e1, e2, hr, hi⟩ := gc_at hc (by omega)
    obtain ⟨a, rule, dot, st⟩ := c
    simp only at e1 e2 h0
    subst e1 e2
    have hst := hc.2
    simp only at hst
    unfold stepL at hd
    rw [if_neg h0] at hd
    simp only [rule_get hr] at hd
    have hR := rgt_eq hr
    by_cases hl : i = (rgt g r).length
    · subst hl
      rw [if_pos (by rw [hR])] at hd
      have hz : rst g ((r : Int), (((rgt g r).length : Nat) : Int)) = [] := by unfold rst; simp
      rcases List.eq_nil_or_concat st with rfl | ⟨st0, s, e⟩
      · unfold backL at hd
        simp only [List.getLast?_nil, rule_get hr] at hd
        have hfm : fmC g ⟨a, (r : Int), (((rgt g r).length : Nat) : Int), []⟩ = [] := by unfold fmC; rw [hz]; simp
        rcases List.mem_append.1 hd with hd | hd
        · split at hd
          · rename_i hz0
            rw [List.mem_singleton] at hd
            subst hd
            rcases h with ⟨_, rfl⟩ | ⟨hk, _⟩
            · refine .inr ⟨by show (0 : Int) ≤ (r : Int); omega, [], [], ?_, by rw [hfm]; exact .nil⟩
              show Cx g (lft g ((r : Int)).toNat) []
              rw [Int.toNat_natCast, lft_eq hr, hz0]
              exact .root
            · exact absurd hk (by show ¬ ((0 : Int) ≤ -1); decide)
          · simp at hd
        · obtain ⟨s, hs, rfl⟩ := List.mem_map.1 hd
          obtain ⟨k, j, hk, hj, rfl, he⟩ := calls_mem hs (hg.left0 _ (List.getElem_mem hr))
          rcases h with ⟨hk', _⟩ | ⟨_, F, e, hF, hD⟩
          · simp only at hk'; omega
          · refine .inr ⟨by show (0 : Int) ≤ (r : Int); omega, (rgt g k).drop (j + 1) ++ F, e, ?_, ?_⟩
            · show Cx g (lft g ((r : Int)).toNat) _
              rw [Int.toNat_natCast, lft_eq hr, ← he]
              refine .sub hk hj ?_
              have : botC ⟨a, ((k : Nat) : Int), ((j + 1 : Nat) : Int), []⟩ = (k : Int) := rfl
              rw [this, Int.toNat_natCast] at hF
              exact hF
            · rw [hfm, List.nil_append]
              have : fmC g ⟨a, ((k : Nat) : Int), ((j + 1 : Nat) : Int), []⟩ = (rgt g k).drop (j + 1) := by unfold fmC rst; simp
              rw [this] at hD
              exact hD
      · rw [List.concat_eq_append] at e
        subst e
        unfold backL at hd
        simp only [List.getLast?_append, List.getLast?_singleton, Option.or_some, Option.some_or, List.dropLast_concat, List.mem_singleton] at hd
        subst hd
        have hvs := hst s (by simp)
        rcases h with ⟨hk', _⟩ | ⟨_, F, e, hF, hD⟩
        · have := hvs.1; simp only at hk'; omega
        · refine .inr ⟨by show (0 : Int) ≤ (r : Int); omega, F, e, ?_, ?_⟩
          · have : botC ⟨a, s.1, s.2, st0⟩ = botC ⟨a, (r : Int), (((rgt g r).length : Nat) : Int), st0 ++ [s]⟩ := by cases st0 <;> rfl
            rw [← this]; exact hF
          · have : fmC g ⟨a, (r : Int), (((rgt g r).length : Nat) : Int), st0 ++ [s]⟩ = fmC g ⟨a, s.1, s.2, st0⟩ := by unfold fmC; rw [hz]; simp
            rw [this]; exact hD
    · rw [if_neg (by rw [← hR]; omega)] at hd
      have hil : i < (rgt g r).length := by omega
      have hil' : i < g.rules[r].right.length := by rw [← hR]; exact hil
      simp only [Int.toNat_natCast, List.getElem?_eq_getElem hil'] at hd
      split at hd
      · rename_i hs0
        obtain ⟨k, hk, rfl⟩ := List.mem_map.1 hd
        unfold ruleIx at hk
        rw [List.mem_filter, List.mem_range] at hk
        obtain ⟨hk, hk2⟩ := hk
        rw [List.getElem?_eq_getElem hk] at hk2
        simp only [Option.map_some, Option.some.injEq, decide_eq_true_eq] at hk2
        have hlk : lft g k = (rgt g r)[i] := by rw [lft_eq hk, hk2]; simp only [hR]
        rcases h with ⟨hk', _⟩ | ⟨_, F, e, hF, hD⟩
        · simp only at hk'; omega
        · have hrd : rst g ((r : Int), ((i : Nat) : Int)) = lft g k :: (rgt g r).drop (i + 1) := by
            unfold rst
            simp only [Int.toNat_natCast]
            rw [List.drop_eq_getElem_cons hil, hlk]
          have hk0 : rst g ((k : Int), 0) = rgt g k := by unfold rst; simp
          have key : ∃ X, fmC g ⟨a, (k : Nat), 0, stkL g.rules[r] ⟨a, (r : Nat), (i : Nat), st⟩⟩ = rgt g k ++ X ∧ fmC g ⟨a, (r : Nat), (i : Nat), st⟩ = lft g k :: X ∧ botC ⟨a, (k : Nat), 0, stkL g.rules[r] ⟨a, (r : Nat), (i : Nat), st⟩⟩ = botC ⟨a, (r : Nat), (i : Nat), st⟩ := by
            unfold fmC stkL
            simp only [hrd, hk0]
            by_cases hcs : st = [] ∨ (i : Int) + 1 < (g.rules[r].right.length : Int)
            · simp only [if_pos hcs]
              refine ⟨(rgt g r).drop (i + 1) ++ st.reverse.flatMap (rst g), ?_, rfl, by cases st <;> rfl⟩
              have : rst g ((r : Int), (i : Int) + 1) = (rgt g r).drop (i + 1) := by unfold rst; rfl
              simp [this]
            · simp only [if_neg hcs]
              have hd0 : (rgt g r).drop (i + 1) = [] := List.drop_of_length_le (by rw [hR]; have := fun h => hcs (.inr h); omega)
              refine ⟨st.reverse.flatMap (rst g), rfl, by rw [hd0]; rfl, ?_⟩
              cases st with
              | nil => exact absurd (.inl rfl) hcs
              | cons b st => rfl
          obtain ⟨X, x1, x2, x3⟩ := key
          rw [x1, List.append_assoc] at hD
          rw [x3] at hF
          obtain ⟨d1, d2, w1, w2, _, rfl, h1, h2⟩ := hD.split rfl
          have hfin := Dv.var hk h1 h2
          refine .inr ⟨by show (0 : Int) ≤ (r : Int); omega, F, (k : Int) :: (d1 ++ d2), hF, ?_⟩
          rw [x2]
          exact hfin
      · simp at hd
theorem mn_read {c : Cfg} {t : Int} {u : List Int} (hc : GC g c) (ht : 0 ≤ t) (hn : nextL g c = t) (h : Mn g (mvC c) u) : Mn g c (t :: u) := by
 by_cases h0 : c.rule < 0
 ·unfold nextL at hn
  rw [if_pos h0] at hn; omega
 ·obtain ⟨r, i, e1, e2, hr, hi⟩ := gc_at hc (by omega)
  obtain ⟨a, rule, dot, st⟩ := c
  simp only at e1 e2 h0
  subst e1 e2
  have hR := rgt_eq hr
  unfold nextL at hn
  rw [if_neg h0] at hn
  simp only [rule_get hr] at hn
  by_cases hl : i = (rgt g r).length
  ·rw [if_pos (by rw [← hR]; omega)] at hn; omega
  ·rw [if_neg (by rw [← hR]; omega)] at hn
   have hil : i < (rgt g r).length := by omega
   have hil' : i < g.rules[r].right.length := by rw [← hR]; exact hil
   simp only [Int.toNat_natCast, List.getElem?_eq_getElem hil'] at hn
   split at hn
   ·omega
   ·rename_i hs
    have hse : (rgt g r)[i] = g.rules[r].right[i] := by simp only [hR]
    have hrd : rst g ((r : Int), ((i : Nat) : Int)) = g.rules[r].right[i] :: (rgt g r).drop (i + 1) := by
     unfold rst
     simp only [Int.toNat_natCast]
     rw [List.drop_eq_getElem_cons hil, hse]
    have hrd1 : rst g ((r : Int), (i : Int) + 1) = (rgt g r).drop (i + 1) := by unfold rst; rfl
    rcases h with ⟨hk', _⟩ | ⟨_, F, e, hF, hD⟩
    ·exact absurd hk' (by show ¬ ((r : Int) < 0); omega)
    ·refine .inr ⟨by show (0 : Int) ≤ (r : Int); omega, F, e, ?_, ?_⟩
     ·have : botC (mvC ⟨a, (r : Int), (i : Int), st⟩) = botC ⟨a, (r : Int), (i : Int), st⟩ := by cases st <;> rfl
      rw [← this]; exact hF
     ·have f1 : fmC g ⟨a, (r : Int), (i : Int), st⟩ = g.rules[r].right[i] :: ((rgt g r).drop (i + 1) ++ st.reverse.flatMap (rst g)) := by unfold fmC; rw [hrd]; rfl
      have f2 : fmC g (mvC ⟨a, (r : Int), (i : Int), st⟩) = (rgt g r).drop (i + 1) ++ st.reverse.flatMap (rst g) := by unfold fmC mvC; rw [hrd1]
      rw [f2] at hD
      rw [f1, ← hn]
      exact .term (by omega) hD
theorem prd_dv {v : Int} (h : Prd g v) : ∃ d w, Dv g [v] d w := by
 induction h with
 | mk i h h1 ih =>
  have key : ∀ l : List Int, (∀ s ∈ l, 0 ≤ s → ∃ d w, Dv g [s] d w) → ∃ d w, Dv g l d w := by
   intro l
   induction l with
   | nil => exact fun _ => ⟨_, _, .nil⟩
   | cons s l ihl =>
    intro hl
    obtain ⟨d2, w2, k2⟩ := ihl fun x hx => hl x (List.mem_cons_of_mem _ hx)
    by_cases h0 : 0 ≤ s
    ·obtain ⟨d1, w1, k1⟩ := hl s (List.mem_cons_self ..) h0
     exact ⟨_, _, k1.append k2⟩
    ·exact ⟨_, _, .term (by omega) k2⟩
  obtain ⟨d, w, k⟩ := key _ ih
  have := Dv.one h (by rw [rgt_eq h]; exact k)
  rw [lft_eq h] at this
  exact ⟨_, _, this⟩
theorem form_dv : ∀ {l : List Int}, (∀ s ∈ l, 0 ≤ s → Prd g s) → ∃ d w, Dv g l d w
 | [], _ => ⟨_, _, .nil⟩
 | s :: l, h => by
  obtain ⟨d2, w2, k2⟩ := form_dv (l := l) fun x hx => h x (List.mem_cons_of_mem _ hx)
  by_cases h0 : 0 ≤ s
  ·obtain ⟨d1, w1, k1⟩ := prd_dv (h s (List.mem_cons_self ..) h0)
   exact ⟨_, _, k1.append k2⟩
  ·exact ⟨_, _, .term (by omega) k2⟩
theorem usd_cx {v : Int} (h : Usd g v) : ∃ F, Cx g v F ∧ ∀ s ∈ F, 0 ≤ s → Prd g s := by
 induction h with
 | base h => exact ⟨[], .root, fun s hs => by cases hs⟩
 | @step i h hu hp s hs h0 ih =>
  obtain ⟨F, hF, hP⟩ := ih
  obtain ⟨j, hj, e⟩ := List.getElem_of_mem hs
  have hj' : j < (rgt g i).length := by rw [rgt_eq h]; exact hj
  have := Cx.sub h hj' (by rw [lft_eq h]; exact hF)
  have e1 : (rgt g i)[j] = s := by rw [← e]; simp only [rgt_eq h]
  rw [e1] at this
  refine ⟨_, this, fun x hx h0 => ?_⟩
  rcases List.mem_append.1 hx with h1 | h1
  ·exact hp x (by rw [← rgt_eq h]; exact List.mem_of_mem_drop h1) h0
  ·exact hP x h1 h0
theorem rst_prd (hu : AllUse g) {s : Int × Int} : ∀ x ∈ rst g s, 0 ≤ x → Prd g x := by
 intro x hx h0
 unfold rst at hx
 have h1 := List.mem_of_mem_drop hx
 by_cases h : s.1.toNat < g.rules.length
 ·rw [rgt_eq h] at h1
  exact (hu _ (List.getElem_mem h)).2 x h1 h0
 ·unfold rgt at h1
  rw [List.getElem?_eq_none (by omega)] at h1
  simp at h1
theorem mn_some (hu : AllUse g) {c : Cfg} (hc : GC g c) : ∃ w, Mn g c w := by
  by_cases h0 : c.rule < 0
  · exact ⟨[], .inl ⟨h0, rfl⟩⟩
  · have hb : ∃ k : Nat, botC c = k ∧ k < g.rules.length := by
      unfold botC
      split
      · have := hc.1.1
        exact ⟨c.rule.toNat, by omega, by omega⟩
      · rename_i s st e
        obtain ⟨v1, v2, _⟩ := hc.2 s (by rw [e]; simp)
        exact ⟨s.1.toNat, by omega, by omega⟩
    obtain ⟨k, e, hk⟩ := hb
    obtain ⟨F, hF, hP⟩ := usd_cx (hu _ (List.getElem_mem hk)).1
    have hp : ∀ x ∈ fmC g c ++ F, 0 ≤ x → Prd g x := by
      intro x hx
      rcases List.mem_append.1 hx with h | h
      · unfold fmC at h
        rcases List.mem_append.1 h with h | h
        · exact rst_prd hu x h
        · obtain ⟨s, _, h⟩ := List.mem_flatMap.1 h
          exact rst_prd hu x h
      · exact hP x h
    obtain ⟨d, w, hD⟩ := form_dv hp
    exact ⟨w, .inr ⟨by omega, F, d, by rw [e, Int.toNat_natCast, lft_eq hk]; exact hF, hD⟩⟩
def LL' (g : Gram) (r : Nat) (z : List Int) : Prop := ∃ d w F e y, Dv g (rgt g r) d w ∧ Cx g (lft g r) F ∧ Dv g F e y ∧ z = w ++ y
theorem look_ll {r : Nat} {c : List Int} : LookL g r c ↔ ∃ z, LL' g r z ∧ c = z.take 2 := by
 constructor
 ·rintro ⟨d, w, F, e, u, h1, h2, h3, rfl⟩
  exact ⟨_, ⟨d, w, F, e, u, h1, h2, h3, rfl⟩, rfl⟩
 ·rintro ⟨_, ⟨d, w, F, e, u, h1, h2, h3, rfl⟩, rfl⟩
  exact ⟨d, w, F, e, u, h1, h2, h3, rfl⟩
def c0 (r : Nat) : Cfg := ⟨(r : Nat), (r : Nat), ((0 : Nat) : Int), []⟩
theorem ll_ac (hg : InG g) {r : Nat} (hr : r < g.rules.length) {z : List Int} (h : LL' g r z) : Ac g (c0 r) z := by
 obtain ⟨d, w, F, e, y, h1, h2, h3, rfl⟩ := h
 exact ac_rule hg h1 r r 0 [] y hr (Nat.zero_le _) (by rw [List.drop_zero]) (.inl ⟨rfl, ac_end hg h2 _ _ h3 r r hr rfl⟩)
theorem mn_ll {r : Nat} {z : List Int} (h : Mn g (c0 r) z) : LL' g r z := by
 rcases h with ⟨h, _⟩ | ⟨_, F, d, hF, hD⟩
 ·exact absurd h (by show ¬ ((r : Int) < 0); omega)
 ·have e1 : fmC g (c0 r) = rgt g r := by unfold fmC rst c0; simp
  have e2 : botC (c0 r) = r := rfl
  rw [e1] at hD
  rw [e2, Int.toNat_natCast] at hF
  obtain ⟨d1, d2, w1, w2, _, rfl, h1, h2⟩ := hD.split rfl
  exact ⟨d1, w1, F, d2, w2, h1, hF, h2, rfl⟩
structure Bh (g : Gram) (v : Int) (u : List Int) (l : List Cfg) : Prop where
 gc : ∀ b ∈ l, GC g b
 back : ∀ b ∈ l, ∃ r : Nat, r < g.rules.length ∧ lft g r = v ∧ b.alt = r ∧ ∀ x, Mn g b x → Mn g (c0 r) (u ++ x)
 on : ∀ r x, r < g.rules.length → lft g r = v → Ac g (c0 r) (u ++ x) → ∃ b ∈ l, b.alt = r ∧ Ac g b x
theorem rch_gc {l : List Cfg} (hcl : ∀ x ∈ callsL g, ∀ s ∈ x, VS g s) (hl : ∀ b ∈ l, GC g b) {c : Cfg} (h : RchC g (callsL g) l c) : GC g c := by
 induction h with
 | base h => exact hl _ h
 | step _ k ih => exact step_gc hcl ih _ k
theorem rch_mn (hg : InG g) (hcl : ∀ x ∈ callsL g, ∀ s ∈ x, VS g s) {l : List Cfg} (hl : ∀ b ∈ l, GC g b) {c : Cfg} (h : RchC g (callsL g) l c) : ∃ b ∈ l, b.alt = c.alt ∧ ∀ x, Mn g c x → Mn g b x := by
 induction h with
 | base h => exact ⟨_, h, rfl, fun _ h => h⟩
 | step h k ih =>
  obtain ⟨b, hb, e, hx⟩ := ih
  exact ⟨b, hb, e.trans (step_alt k).symm, fun x hm => hx x (mn_step hg (rch_gc hcl hl h) k hm)⟩
theorem Bh.first {v : Int} {l : List Cfg} (hl : ∀ c, c ∈ l ↔ ∃ r : Nat, r < g.rules.length ∧ lft g r = v ∧ c = c0 r) (hgc : ∀ r, r < g.rules.length → GC g (c0 r)) : Bh g v [] l where
 gc := fun b hb => by obtain ⟨r, hr, _, rfl⟩ := (hl b).1 hb; exact hgc r hr
 back := fun b hb => by
  obtain ⟨r, hr, h, rfl⟩ := (hl b).1 hb
  exact ⟨r, hr, h, rfl, fun x h => h⟩
 on := fun r x hr h hA => ⟨c0 r, (hl _).2 ⟨r, hr, h, rfl⟩, rfl, hA⟩
variable {v : Int} {u : List Int} {l A : List Cfg} {deep most : Nat}
theorem Bh.begins (hg : InG g) (hu : AllUse g) (hcl : ∀ x ∈ callsL g, ∀ s ∈ x, VS g s) (h : Bh g v u l) (hA : Full g (callsL g) deep most l A) {r : Nat} (hr : r < g.rules.length) (hv : lft g r = v) : (∃ c ∈ A, idle g c = false ∧ c.alt = r) ↔ ∃ x, LL' g r (u ++ x) := by
 constructor
 ·rintro ⟨c, hc, _, ha⟩
  have hR := (hA.mem c).1 hc
  obtain ⟨b, hb, e, hm⟩ := rch_mn hg hcl h.gc hR
  obtain ⟨x, hx⟩ := mn_some hu (rch_gc hcl h.gc hR)
  obtain ⟨r', _, _, e', hm'⟩ := h.back b hb
  obtain rfl : r' = r := by omega
  exact ⟨x, mn_ll (hm' x (hm x hx))⟩
 ·rintro ⟨x, hx⟩
  obtain ⟨b, hb, e, hac⟩ := h.on r x hr hv (ll_ac hg hr hx)
  obtain ⟨c', h1, h2, h3⟩ := hac.run
  refine ⟨c', (hA.mem c').2 (h1 l (.base hb)), ?_, by omega⟩
  unfold idle
  rcases h3 with ⟨_, h3⟩ | ⟨t, u', _, h4, h3, _⟩ <;> rw [h3] <;> simp <;> omega
theorem nextL_end {c : Cfg} (hc : nextL g c = -1) (hgc : GC g c) : c.rule < 0 := by
 apply Classical.byContradiction
 intro h0
 obtain ⟨r, i, e1, e2, hr, hi⟩ := gc_at hgc (by omega)
 unfold nextL at hc
 rw [if_neg h0, e1, rule_get hr] at hc
 simp only at hc
 split at hc
 ·omega
 ·split at hc
  ·omega
  ·split at hc <;> omega
theorem Bh.is (hg : InG g) (hcl : ∀ x ∈ callsL g, ∀ s ∈ x, VS g s) (h : Bh g v u l) (hA : Full g (callsL g) deep most l A) {r : Nat} (hr : r < g.rules.length) (hv : lft g r = v) : (∃ c ∈ A, nextL g c = -1 ∧ c.alt = r) ↔ LL' g r u := by
 constructor
 ·rintro ⟨c, hc, hn, ha⟩
  have hR := (hA.mem c).1 hc
  obtain ⟨b, hb, e, hm⟩ := rch_mn hg hcl h.gc hR
  obtain ⟨r', _, _, e', hm'⟩ := h.back b hb
  obtain rfl : r' = r := by omega
  have := mn_ll (hm' [] (hm [] (.inl ⟨nextL_end hn (rch_gc hcl h.gc hR), rfl⟩)))
  rwa [List.append_nil] at this
 ·intro hx
  obtain ⟨b, hb, e, hac⟩ := h.on r [] hr hv (ll_ac hg hr (by rw [List.append_nil]; exact hx))
  obtain ⟨c', h1, h2, h3⟩ := hac.run
  rcases h3 with ⟨_, h3⟩ | ⟨t, u', h4, _⟩
  ·exact ⟨c', (hA.mem c').2 (h1 l (.base hb)), h3, by omega⟩
  ·cases h4
theorem Bh.next (hg : InG g) (hcl : ∀ x ∈ callsL g, ∀ s ∈ x, VS g s) (h : Bh g v u l) (hA : Full g (callsL g) deep most l A) (t : Int) : Bh g v (u ++ [t]) (moveL g t (A.filter fun c => !idle g c)) where
 gc := fun b hb => by
  obtain ⟨d, hd, rfl, h0, hn⟩ := moveL_at hb
  exact mvC_gc (rch_gc hcl h.gc ((hA.mem d).1 (List.mem_filter.1 hd).1)) h0 hn
 back := fun b hb => by
  obtain ⟨d, hd, rfl, h0, hn⟩ := moveL_at hb
  have hR := (hA.mem d).1 (List.mem_filter.1 hd).1
  obtain ⟨b, hb, e, hm⟩ := rch_mn hg hcl h.gc hR
  obtain ⟨r', hr', hl', e', hm'⟩ := h.back b hb
  refine ⟨r', hr', hl', by show d.alt = _; omega, fun x hx => ?_⟩
  rw [List.append_assoc]
  exact hm' _ (hm _ (mn_read (rch_gc hcl h.gc hR) h0 hn hx))
 on := fun r x hr hv hac => by
  rw [List.append_assoc] at hac
  obtain ⟨b, hb, e, hac⟩ := h.on r _ hr hv hac
  obtain ⟨c', h1, h2, h3⟩ := hac.run
  rcases h3 with ⟨h4, _⟩ | ⟨t', u', h4, h5, h6, h7⟩
  ·cases h4
  ·obtain ⟨rfl, rfl⟩ := List.cons.inj h4
   refine ⟨mvC c', ?_, by show c'.alt = _; omega, h7⟩
   unfold moveL
   refine List.mem_map.2 ⟨c', List.mem_filter.2 ⟨List.mem_filter.2 ⟨(hA.mem c').2 (h1 l (.base hb)), ?_⟩, ?_⟩, rfl⟩
   ·unfold idle; rw [h6]; simp; omega
   ·simp; exact ⟨h5, h6⟩
end Go.Proofs.Ytfbdababcdfjfaa
