/- A part of a proof. Its conditions: none. -/
import Derived.Test.YtemkglelfeidhaaAmJChRep
import Derived.Test.YtemkglelfeidhaaAmJSrch
set_option linter.all false
namespace Go.Proofs.Ytemkglelfeidhaa
open Go.AM Go.AM.Fo Go.RowKit
set_option maxRecDepth 100000
def wyC (p : Option Addr) (y : Fo.Way) : List Value := [.int .i64 (y.1 : Nat), .slice p y.2.length y.2.length]
theorem wy_0 (p : Option Addr) (y : Fo.Way) : (wyC p y)[0]? = some (.int .i64 (y.1 : Nat)) := rfl
theorem wy_1 (p : Option Addr) (y : Fo.Way) : (wyC p y)[1]? = some (.slice p y.2.length y.2.length) := rfl
theorem wy_len (p : Option Addr) (y : Fo.Way) : (wyC p y).length = 2 := rfl
theorem wy_all (p : Option Addr) (y : Fo.Way) : ((wyC p y).drop 0).take 2 = wyC p y := rfl
theorem wy_one (p : Option Addr) (y : Fo.Way) : (wyC p y).all one = true := rfl
theorem wy_cells (p : Option Addr) (y : Fo.Way) : vcells (.agg (wyC p y).toArray) = wyC p y := rfl
def visit (cont : List Fo.Way → Bool) : List Fo.Way → List Fo.Way → List Fo.Way × Bool
 | vs, [] => (vs, true)
 | vs, x :: xs => if cont (vs ++ [x]) = true then visit cont (vs ++ [x]) xs else (vs ++ [x], false)
theorem visit_append (cont : List Fo.Way → Bool) : ∀ (a b vs : List Fo.Way), visit cont vs (a ++ b) = if (visit cont vs a).2 = true then visit cont (visit cont vs a).1 b else visit cont vs a
 | [], b, vs => by simp [visit]
 | x :: a, b, vs => by
  have e1 : visit cont vs (x :: (a ++ b)) = if cont (vs ++ [x]) = true then visit cont (vs ++ [x]) (a ++ b) else (vs ++ [x], false) := rfl
  have e2 : visit cont vs (x :: a) = if cont (vs ++ [x]) = true then visit cont (vs ++ [x]) a else (vs ++ [x], false) := rfl
  rw [List.cons_append, e1, e2]
  by_cases h : cont (vs ++ [x]) = true
  ·rw [if_pos h, if_pos h]; exact visit_append cont a b _
  ·rw [if_neg h, if_neg h]; rfl
def okv (cont : List Fo.Way → Bool) (vs : List Fo.Way) : Prop := cont vs = true ∨ vs = []
theorem visit_ok {cont : List Fo.Way → Bool} : ∀ (l vs : List Fo.Way), okv cont vs → ∀ vs', visit cont vs l = (vs', true) → okv cont vs'
 | [], vs, h, vs', e => by cases e; exact h
 | x :: l, vs, h, vs', e => by
  have e1 : visit cont vs (x :: l) = if cont (vs ++ [x]) = true then visit cont (vs ++ [x]) l else (vs ++ [x], false) := rfl
  rw [e1] at e
  by_cases hc : cont (vs ++ [x]) = true
  ·rw [if_pos hc] at e; exact visit_ok l _ (.inl hc) vs' e
  ·rw [if_neg hc] at e; cases e
theorem RS.keep {α : Type} {enc : α → Value} {H H' : Heap} {p : Option Addr} {l : List α} (h : RS enc H p l) (hk : ∀ b, p = some b → H' b.block = H b.block) : RS enc H' p l := by
 rcases h with h | ⟨x, k, cs, ty, own, rfl, e2, e3, e4⟩
 ·exact .inl h
 ·exact .inr ⟨x, k, cs, ty, own, rfl, (hk _ rfl).trans e2, e3, e4⟩
structure DoC (N : Nat) (H0 : Heap) (F : FuncId) (captured : List Value) (o : Nat) (I : List Fo.Way → Nat → Nat → Heap → Prop) (cont : List Fo.Way → Bool) (good : Fo.Way → Prop) : Prop where
 st : ∀ vs y n H n' H', I vs y n H → WF n H → Kp n H n' H' → I vs y n' H'
 lo : ∀ vs y n H, I vs y n H → N ≤ o ∧ o < n ∧ N ≤ y ∧ y < n
 call : ∀ vs y n1 H1 x p, WF n1 H1 → (∀ z, z < N → H1 z = H0 z) → N ≤ n1 → I vs y n1 H1 → okv cont vs → good x → RS (fun c : Nat => Value.int .i64 (c : Int)) H1 p x.2 → (∀ b, p = some b → b.block < n1 ∧ b.block ≠ o ∧ b.block ≠ y) →
  GivesX Try.prog (fun z => z = o ∨ z = y) F (.agg (wyC p x).toArray :: captured) n1 H1 fun v n2 H2 => ∃ y', (y' = y ∨ n1 ≤ y') ∧ I (vs ++ [x]) y' n2 H2 ∧ v = .bool (cont (vs ++ [x]))
theorem big_0' : (bigN < 0) = False := by simp
section
variable {fo m : Nat} {pt pv pr pw : Option Addr} {g : Gram} {w : List Int} {ks : List Nd} {rd : Nd → Nat} {N : Nat} {H0 : Heap} {F : FuncId} {captured : List Value} {o : Nat} {I : List Fo.Way → Nat → Nat → Heap → Prop} {cont : List Fo.Way → Bool} {good : Fo.Way → Prop}
def subW (g : Gram) (w : List Int) (rd : Nd → Nat) (ah r : Nat) (es : List Nat) (a b : Nat) : List Fo.Way := (enum w rd ah ((rgt g r).drop es.length) a b).map fun bs => (r, es ++ bs)
def subC (g : Gram) (w : List Int) (rd : Nd → Nat) (ah r : Nat) (es : List Nat) (s : Int) (a b c : Nat) : List Fo.Way := if fit w rd ah s a c = true then subW g w rd ah r (es ++ [c]) c b else []
theorem subW_cons {ah r : Nat} {es : List Nat} {a b : Nat} (h : es.length < (rgt g r).length) : subW g w rd ah r es a b = (List.range' a (b + 1 - a)).flatMap (subC g w rd ah r es (rgt g r)[es.length] a b) := by
 unfold subW
 rw [List.drop_eq_getElem_cons h]
 unfold enum
 rw [List.map_flatMap]
 apply congrArg (fun f => List.flatMap f (List.range' a (b + 1 - a)))
 funext c
 unfold subC
 split
 ·unfold subW
  rw [List.length_append, List.length_singleton, List.map_map]
  apply List.map_congr_left
  intro bs _
  simp
 ·rfl
theorem range_split {a b c : Nat} (h1 : a ≤ c) (h2 : c ≤ b) : List.range' a (b + 1 - a) = List.range' a (c - a) ++ c :: List.range' (c + 1) (b - c) := by
 have e1 : b + 1 - a = (c - a) + (b - c + 1) := by omega
 have e2 : a + 1 * (c - a) = c := by omega
 rw [e1, ← List.range'_append, List.range'_succ, e2]
theorem range_snoc {a c : Nat} (h1 : a ≤ c) : List.range' a (c + 1 - a) = List.range' a (c - a) ++ [c] := by
 have e1 : c + 1 - a = (c - a) + 1 := by omega
 have e2 : a + 1 * (c - a) = c := by omega
 rw [e1, ← List.range'_append, e2]
 rfl
set_option maxHeartbeats 16000000 in
theorem split_gives (hw0 : WF N H0) (hf0 : FO H0 fo m pt pv pr pw g w) (hm0 : MR H0 m ks rd) (hwl : w.length ≤ 10) (sg : Sgm g) (dc : DoC N H0 F captured o I cont good) {x : Nd} (hx2 : x.2.2 ≤ w.length) {ah : Nat} (hah : ah ≤ 1000000) {r : Nat} (hr : r < g.rules.length) :
    ∀ (k : Nat) (es : List Nat) (a : Nat), es.length + k = (rgt g r).length → a ≤ x.2.2 → (∀ e ∈ es, e ≤ 1000000) → ∀ (n : Nat) (H : Heap) (vs : List Fo.Way) (y : Nat) (p : Option Addr), WF n H → N ≤ n → (∀ z, z < N → H z = H0 z) → I vs y n H → okv cont vs → RS (fun c : Nat => Value.int .i64 (c : Int)) H p es →
      (∀ b, p = some b → b.block < n ∧ b.block ≠ o ∧ b.block ≠ y) → (∀ v ∈ subW g w rd ah r es a x.2.2, good v) →
      GivesX Try.prog (fun z => z = o ∨ z = y) 75 [.pointer (some ⟨fo, 0, none⟩), ndV x, .int .i64 (ah : Nat), .agg (wyC p (r, es)).toArray, .int .i64 (a : Nat), .func (.func F) #[] captured.toArray] n H
        fun v n' H' => ∃ y', (y' = y ∨ n ≤ y') ∧ I (visit cont vs (subW g w rd ah r es a x.2.2)).1 y' n' H' ∧ v = .bool (visit cont vs (subW g w rd ah r es a x.2.2)).2 := by
  intro k
  induction k with
  | zero =>
    intro es a hlen hax hes n H vs y p hw hNn hbase hI hok hp hpn hgood
    refine GivesX.of orders ok75 (Nat.le_of_ble_eq_true rfl) ?_
    obtain ⟨lo1, lo2, lo3, lo4⟩ := dc.lo _ _ _ _ hI
    have kb : Kp N H0 n H := ⟨hNn, hbase, fun _ => hw⟩
    have hfo := (hf0.mono hw0 kb).f
    obtain ⟨xr, kr, xs, xty, xown, pr', rfl, hxr, c0, c1, c2, hpr⟩ := (hf0.mono hw0 kb).r.at hr
    have k2 := (Kp.new n H (.cells (ndC x) 67 true)).trans (Kp.new (n + 1) (hset H n (.cells (ndC x) 67 true)) (.cells (wyC p (r, es)) 82 true))
    have b1 : hset (hset H n (.cells (ndC x) 67 true)) (n + 1) (.cells (wyC p (r, es)) 82 true) n = .cells (ndC x) 67 true := (hset_ne _ _ _ (by omega)).trans (hset_at _ _ _)
    have b2 := hset_at (hset H n (.cells (ndC x) 67 true)) (n + 1) (.cells (wyC p (r, es)) 82 true)
    repeat refine qqn rfl ?_
    (refine qqr ?_; simp only [SS, qx14, vun, simprocAttr, abox, ndC_cells, ndC_one, wy_cells, wy_one, ndV, ff_75])
    generalize hset (hset H n (.cells (ndC x) 67 true)) (n + 1) (.cells (wyC p (r, es)) 82 true) = H2 at *
    have hfo2 := (k2.keep fo (live_m hw (by rw [hfo]; intro e; cases e))).trans hfo
    have hxr2 := (k2.keep xr (live_m hw (by rw [hxr]; intro e; cases e))).trans hxr
    have hrl : ((r : Int) < (g.rules.length : Int)) = True := by simp only [eq_iff_iff, iff_true]; omega
    have h0r : (0 : Int) ≤ (r : Int) := Int.natCast_nonneg r
    have hgl : (rgt g r).length = g.rules[r].right.length := by rw [rgF_eq hr]
    have hle : ((es.length : Int) = (g.rules[r].right.length : Int)) = True := by simp only [eq_iff_iff, iff_true]; omega
    have hdr : (rgt g r).drop es.length = [] := List.drop_eq_nil_of_le (by omega)
    by_cases hab : a = x.2.2
    · have hab' : ((a : Int) = ((x.2.2 : Nat) : Int)) = True := by simp only [eq_iff_iff, iff_true]; omega
      have hL : subW g w rd ah r es a x.2.2 = [(r, es)] := by unfold subW; rw [hdr]; unfold enum; rw [if_pos hab]; simp
      have hvis : visit cont vs (subW g w rd ah r es a x.2.2) = (vs ++ [(r, es)], cont (vs ++ [(r, es)])) := by
        rw [hL]
        show (if cont (vs ++ [(r, es)]) = true then visit cont (vs ++ [(r, es)]) [] else (vs ++ [(r, es)], false)) = _
        cases hc : cont (vs ++ [(r, es)]) <;> rfl
      repeat (first | refine qqm rfl ?_ | ((first | refine qqr ?_ | refine qqt ?_); simp only [SS, qx14, vun, simprocAttr, hfo2, fo_2, aop_nc, tnc, b1, b2, wy_0, wy_1, wy_all, wy_len, ndC_2, hrl, hr, h0r, hxr2, c1, hle, hab', Int.toNat_natCast, ff_75]))
      have hcall := dc.call vs y (n + 1 + 1) H2 (r, es) p (k2.wf hw) (fun z hz => (k2.keep z (by omega)).trans (hbase z hz)) (by omega) (dc.st _ _ _ _ _ _ hI hw k2) hok (hgood _ (by rw [hL]; simp)) (hp.mono hw k2) (fun b hb => by obtain ⟨q1, q2, q3⟩ := hpn b hb; exact ⟨by omega, q2, q3⟩)
      refine AtCall.byX hcall ?_
      rintro v n3 H3 k3 ⟨y', hy', hI', rfl⟩
      simp only [SS, qx14, vun, simprocAttr, ff_75]
      repeat (first | refine qqm rfl ?_ | ((first | refine qqr ?_ | refine qqt ?_); simp only [SS, qx14, vun, simprocAttr, ff_75]))
      (first | refine WK.retNil ⟨Or.inr rfl, _, rfl, ?_, ?_⟩ | refine WK.skipNil ⟨Or.inl rfl, _, rfl, ?_, ?_⟩)
      · intro z hz hX
        exact (k3.keep z (by omega) hX).trans (k2.keep z hz)
      · simp only [packed, fset_apply, Nat.reduceEqDiff, ↓reduceIte, List.getD_cons_zero, List.getD_cons_succ, hvis, ff_75]
        exact ⟨y', by omega, hI', trivial⟩
    · have hab' : ((a : Int) = ((x.2.2 : Nat) : Int)) = False := by simp only [eq_iff_iff, iff_false]; omega
      have hL : subW g w rd ah r es a x.2.2 = [] := by unfold subW; rw [hdr]; unfold enum; rw [if_neg hab]; simp
      repeat (first | refine qqm rfl ?_ | ((first | refine qqr ?_ | refine qqt ?_); simp only [SS, qx14, vun, simprocAttr, hfo2, fo_2, aop_nc, tnc, b1, b2, wy_0, wy_1, wy_all, wy_len, ndC_2, hrl, hr, h0r, hxr2, c1, hle, hab', Int.toNat_natCast, ff_75]))
      (first | refine WK.retNil ⟨Or.inr rfl, _, rfl, ?_, ?_⟩ | refine WK.skipNil ⟨Or.inl rfl, _, rfl, ?_, ?_⟩)
      · intro z hz hX
        exact k2.keep z hz
      · simp only [packed, fset_apply, Nat.reduceEqDiff, ↓reduceIte, List.getD_cons_zero, List.getD_cons_succ, hL, ff_75]
        exact ⟨y, .inl rfl, dc.st _ _ _ _ _ _ hI hw k2, rfl⟩
  | succ k ihk =>
    intro es a hlen hax hes n H vs y p hw hNn hbase hI hok hp hpn hgood
    refine GivesX.of orders ok75 (Nat.le_of_ble_eq_true rfl) ?_
    obtain ⟨lo1, lo2, lo3, lo4⟩ := dc.lo _ _ _ _ hI
    have kb : Kp N H0 n H := ⟨hNn, hbase, fun _ => hw⟩
    have hfo := (hf0.mono hw0 kb).f
    have hfN := live_m hw0 (z := fo) (by rw [hf0.f]; intro e; cases e)
    obtain ⟨xr, kr, xs, xty, xown, pr', rfl, hxr, c0, c1, c2, hpr⟩ := (hf0.mono hw0 kb).r.at hr
    have hprb := (hf0.r.at hr)
    have k2 := (Kp.new n H (.cells (ndC x) 67 true)).trans (Kp.new (n + 1) (hset H n (.cells (ndC x) 67 true)) (.cells (wyC p (r, es)) 82 true))
    have b1 : hset (hset H n (.cells (ndC x) 67 true)) (n + 1) (.cells (wyC p (r, es)) 82 true) n = .cells (ndC x) 67 true := (hset_ne _ _ _ (by omega)).trans (hset_at _ _ _)
    have b2 := hset_at (hset H n (.cells (ndC x) 67 true)) (n + 1) (.cells (wyC p (r, es)) 82 true)
    repeat refine qqn rfl ?_
    (refine qqr ?_; simp only [SS, qx14, vun, simprocAttr, abox, ndC_cells, ndC_one, wy_cells, wy_one, ndV, ff_75])
    generalize hset (hset H n (.cells (ndC x) 67 true)) (n + 1) (.cells (wyC p (r, es)) 82 true) = H2 at *
    have hfo2 := (k2.keep fo (live_m hw (by rw [hfo]; intro e; cases e))).trans hfo
    have hxr2 := (k2.keep xr (live_m hw (by rw [hxr]; intro e; cases e))).trans hxr
    have hrl : ((r : Int) < (g.rules.length : Int)) = True := by simp only [eq_iff_iff, iff_true]; omega
    have h0r : (0 : Int) ≤ (r : Int) := Int.natCast_nonneg r
    have hrg := rgF_eq hr
    have hrm : g.rules[r] ∈ g.rules := List.getElem_mem hr
    generalize hgr : g.rules[r] = gr at *
    rw [hrg] at hlen
    have hesl : es.length < gr.right.length := by omega
    have hle : ((es.length : Int) = (gr.right.length : Int)) = False := by simp only [eq_iff_iff, iff_false]; omega
    have hel : ((es.length : Int) < (gr.right.length : Int)) = True := by simp only [eq_iff_iff, iff_true]; omega
    have h0e : (0 : Int) ≤ (es.length : Int) := Int.natCast_nonneg _
    have hw2 := k2.wf hw
    have hI2 := dc.st _ _ _ _ (n + 1 + 1) H2 hI hw k2
    have hr8 := sg.r8 _ hrm
    obtain ⟨sy, hsy⟩ : ∃ sy, gr.right[es.length] = sy := ⟨_, rfl⟩
    have hsym := sg.sym hrm (show sy ∈ gr.right by rw [← hsy]; exact List.getElem_mem hesl)
    have hLs : subW g w rd ah r es a x.2.2 = (List.range' a (x.2.2 + 1 - a)).flatMap (subC g w rd ah r es sy a x.2.2) := by
      have h := subW_cons (g := g) (w := w) (rd := rd) (ah := ah) (r := r) (es := es) (a := a) (b := x.2.2) (by rw [hrg]; exact hesl)
      rw [h]
      congr 2
      simp only [hrg, hsy]
    repeat (first | refine qqm rfl ?_ | ((first | refine qqr ?_ | refine qqt ?_); simp only [SS, qx14, vun, simprocAttr, hfo2, fo_2, aop_nc, tnc, b1, b2, wy_0, wy_1, hrl, hr, h0r, hxr2, c1, hle, Int.toNat_natCast, ff_75]))
    refine WK.loop (fun kk s => ∃ (c y' : Nat) (vs' : List Fo.Way), a ≤ c ∧ c ≤ x.2.2 + 1 ∧ visit cont vs ((List.range' a (c - a)).flatMap (subC g w rd ah r es sy a x.2.2)) = (vs', true) ∧ I vs' y' s.n s.H ∧ (y' = y ∨ n + 1 + 1 ≤ y') ∧ Kx (fun z => z = o ∨ z = y) (n + 1 + 1) H2 s.n s.H ∧
      s.f 0 = .pointer (some ⟨fo, 0, none⟩) ∧ s.f 2 = .int .i64 (ah : Nat) ∧ s.f 4 = .int .i64 (a : Nat) ∧ s.f 5 = .func (.func F) #[] captured.toArray ∧ s.f 7 = .pointer (some ⟨n, 0, none⟩) ∧ s.f 9 = .pointer (some ⟨n + 1, 0, none⟩) ∧ s.f 13 = .slice pr' gr.right.length gr.right.length ∧ s.f 14 = .int .i64 (c : Nat) ∧ kk = x.2.2 + 1 - c) (x.2.2 + 1 - a) ?_ ?_
    · refine ⟨a, y, vs, Nat.le_refl _, by omega, by simp [visit], hI2, .inl rfl, Kx.refl _ _ _, rfl, rfl, rfl, rfl, rfl, rfl, rfl, rfl, rfl⟩
    rintro kk ⟨f, n3, H3⟩ ⟨c, y', vs', hac, hcb, hvis, hI3, hy', k3, f0, f2, f4, f5, f7, f9, f13, f14, rfl⟩ ih
    simp only at hI3 k3 f0 f2 f4 f5 f7 f9 f13 f14 ih
    have hw3 := k3.wf hw2
    have hle3 := k3.le
    have lo5 := (dc.lo _ _ _ _ hI3).2.2.2
    have b13 := (k3.keep n (by omega) (by omega)).trans b1
    have b23 := (k3.keep (n + 1) (by omega) (by omega)).trans b2
    by_cases hc : c ≤ x.2.2
    case neg =>
      have hc' : ((c : Int) ≤ ((x.2.2 : Nat) : Int)) = False := by simp only [eq_iff_iff, iff_false]; omega
      have hce : c = x.2.2 + 1 := by omega
      rw [hce, ← hLs] at hvis
      repeat (first | refine qqm rfl ?_ | ((first | refine qqr ?_ | refine qqt ?_); simp only [SS, qx14, vun, simprocAttr, f7, f14, b13, ndC_2, hc', ff_75]))
      (first | refine WK.retNil ⟨Or.inr rfl, _, rfl, ?_, ?_⟩ | refine WK.skipNil ⟨Or.inl rfl, _, rfl, ?_, ?_⟩)
      · intro z hz hX
        exact (k3.keep z (by omega) hX).trans (k2.keep z hz)
      · simp only [packed, fset_apply, Nat.reduceEqDiff, ↓reduceIte, List.getD_cons_zero, List.getD_cons_succ, ff_75]
        rw [hvis]
        exact ⟨y', by omega, hI3, rfl⟩
    have hc' : ((c : Int) ≤ ((x.2.2 : Nat) : Int)) = True := by simp only [eq_iff_iff, iff_true]; omega
    have hbase3 : ∀ z, z < N → H3 z = H0 z := fun z hz => (k3.keep z (by omega) (by omega)).trans ((k2.keep z (by omega)).trans (hbase z hz))
    have kb3 : Kp N H0 n3 H3 := ⟨by omega, hbase3, fun _ => hw3⟩
    have hf3 := hf0.mono hw0 kb3
    have hm3 := hm0.mono hw0 kb3
    have hpr3 : RA (Value.int .i64) H3 pr' gr.right := by
      obtain ⟨xr', kr', xs', xty', xown', pq, e1, hxq, d0, d1, d2, hq⟩ := hf0.r.at hr
      rw [hgr] at d1 hq
      cases e1
      have := (kb.keep xr (live_m hw0 (by rw [hxq]; intro e; cases e))).trans hxq
      rw [hxr] at this
      cases this
      rw [d1] at c1
      cases c1
      exact hq.mono hw0 kb3
    obtain ⟨xq, kq, qs, qty, qown, rfl, hxq, eq⟩ := hpr3.at hesl
    rw [hsy] at eq
    have hw1 : IntKind.i64.wrap ((c : Int) + 1) = ((c + 1 : Nat) : Int) := by rw [wrap_in (by omega) (by omega)]; rfl
    have hsnoc : (List.range' a (c + 1 - a)).flatMap (subC g w rd ah r es sy a x.2.2) = (List.range' a (c - a)).flatMap (subC g w rd ah r es sy a x.2.2) ++ subC g w rd ah r es sy a x.2.2 c := by
      rw [range_snoc hac, List.flatMap_append]; simp
    repeat (first | refine qqm rfl ?_ | ((first | refine qqr ?_ | refine qqt ?_); simp only [SS, qx14, vun, simprocAttr, f0, f2, f4, f7, f9, f13, f14, b13, b23, ndC_2, wy_1, hc', hel, hesl, h0e, hxq, eq, Int.toNat_natCast, ff_75]))
    refine AtCall.by (fits_gives hf3 hm3 hwl hsym.1 hsym.2 hac (by omega) hah) ?_
    rintro v n' H' _ ⟨rfl, rfl, rfl⟩
    cases hft : fit w rd ah sy a c with
    | false =>
      simp only [SS, qx14, vun, simprocAttr, ff_75]
      repeat (first | refine qqm rfl ?_ | ((first | refine qqr ?_ | refine qqt ?_); simp only [SS, qx14, vun, simprocAttr, f14, hw1, ff_75]))
      refine ih (x.2.2 + 1 - (c + 1)) (by omega) _ ?_
      refine ⟨c + 1, y', vs', by omega, by omega, ?_, hI3, hy', k3, f0, f2, f4, f5, f7, f9, f13, rfl, rfl⟩
      rw [hsnoc, visit_append, hvis]
      unfold subC
      rw [hft]
      rfl
    | true =>
      have b14 := b13
      have b24 := b23
      have hsub : subC g w rd ah r es sy a x.2.2 c = subW g w rd ah r (es ++ [c]) c x.2.2 := by unfold subC; rw [if_pos hft]
      have hgood' : ∀ v ∈ subW g w rd ah r (es ++ [c]) c x.2.2, good v := fun v hv => hgood v (by
        rw [hLs]
        exact List.mem_flatMap.2 ⟨c, List.mem_range'.2 ⟨c - a, by omega, by omega⟩, by rw [hsub]; exact hv⟩)
      simp only [SS, qx14, vun, simprocAttr, ff_75]
      repeat refine qqn rfl ?_
      refine qqm rfl ?_
      repeat refine qqn rfl ?_
      have hcb' : [n' + 1].contains n' = false := by simp
      have hbg : es.length + 1 ≤ bigN := by unfold bigN; omega
      refine WK.cut (fun s => ∃ z, s.f 15 = .slice (some ⟨z, 0, none⟩) (es.length + 1) (es.length + 1) ∧ n' ≤ z ∧ z < s.n ∧ s.H z = .cells ((es ++ [c]).map fun c : Nat => Value.int .i64 (c : Int)) 3 true ∧ Kp n' H' s.n s.H ∧ s.f 0 = .pointer (some ⟨fo, 0, none⟩) ∧ s.f 2 = .int .i64 (ah : Nat) ∧ s.f 4 = .int .i64 (a : Nat) ∧ s.f 5 = .func (.func F) #[] captured.toArray ∧ s.f 7 = .pointer (some ⟨n, 0, none⟩) ∧ s.f 9 = .pointer (some ⟨n + 1, 0, none⟩) ∧ s.f 13 = .slice (some ⟨xq, kq, none⟩) gr.right.length gr.right.length ∧ s.f 14 = .int .i64 (c : Nat)) ?_ ?_
      · have hp3 : RS (fun c : Nat => Value.int .i64 (c : Int)) H' p es := RS.keep hp fun b hb => by
          obtain ⟨q1, q2, q3⟩ := hpn b hb
          exact (k3.keep _ (by omega) (by omega)).trans (k2.keep _ q1)
        have tl1 : [Value.int .i64 (c : Int)] = ([c].map fun c : Nat => Value.int .i64 (c : Int)) := rfl
        by_cases hes0 : es = []
        · subst hes0
          rcases hp3 with ⟨rfl, _⟩ | ⟨xp, kp, ps, pty, pown, rfl, hxp, hfit, hat⟩
          · repeat (first | refine qqm rfl ?_ | ((first | refine qqr ?_ | refine qqt ?_); simp only [SS, qx14, vun, simprocAttr, f9, f14, b23, wy_1, List.length_nil, big_0', ff_75]))
            refine WK.skipNil ⟨rfl, n' + 1, rfl, by omega, by simp, ?_, ?_, f0, f2, f4, f5, f7, f9, f13, f14⟩
            · exact hset_at _ _ _
            · exact (Kp.new n' H' _).trans (Kp.new _ _ _)
          · have hfit' : kp ≤ ps.length := by omega
            repeat (first | refine qqm rfl ?_ | ((first | refine qqr ?_ | refine qqt ?_); simp only [SS, qx14, vun, simprocAttr, f9, f14, b23, wy_1, List.length_nil, big_0', hxp, hfit', ff_75]))
            refine WK.skipNil ⟨rfl, n' + 1, rfl, by omega, by simp, ?_, ?_, f0, f2, f4, f5, f7, f9, f13, f14⟩
            · exact hset_at _ _ _
            · exact (Kp.new n' H' _).trans (Kp.new _ _ _)
        · rcases hp3 with ⟨_, h⟩ | ⟨xp, kp, ps, pty, pown, rfl, hxp, hfit, hat⟩
          · exact absurd h hes0
          have hcs := RS.cells hfit hat
          have he0 : (es.length = 0) = False := by simp [hes0]
          have hb0 : (bigN < es.length) = False := by simp only [eq_iff_iff, iff_false]; unfold bigN; omega
          have hln : (es.map fun c : Nat => Value.int .i64 (c : Int)).length = es.length := List.length_map _
          have htk : (es.map fun c : Nat => Value.int .i64 (c : Int)).take es.length = es.map fun c : Nat => Value.int .i64 (c : Int) := List.take_of_length_le (by omega)
          have q1 : ∀ (H : Heap) ob, hset H (n' + 1) ob n' = H n' := fun H ob => hset_ne _ _ _ (by omega)
          have q2 : ∀ (H : Heap) ob, hset H n' ob (n' + 1) = H (n' + 1) := fun H ob => hset_ne _ _ _ (by omega)
          have hct : [n' + 1].contains n' = false := by simp
          repeat (first | refine qqm rfl ?_ | ((first | refine qqr ?_ | refine qqt ?_); simp only [SS, qx14, vun, simprocAttr, f9, f14, b23, wy_1, hxp, hfit, hcs, he0, hb0, hln, htk, q1, q2, hct, hbg, hset_at, List.drop_zero, ff_75]))
          refine WK.skipNil ⟨rfl, n' + 1 + 1, rfl, by omega, by simp, ?_, ?_, f0, f2, f4, f5, f7, f9, f13, f14⟩
          · refine (hset_at _ _ _).trans ?_
            rw [List.map_append]; rfl
          · exact (((Kp.new n' H' (.cells (es.map fun c : Nat => Value.int .i64 (c : Int)) 3 true)).trans (Kp.new (n' + 1) _ (.cells [.int .i64 (c : Int)] 3 true))).set (x := n') .dead (Nat.le_refl _) (by omega)).trans (Kp.new (n' + 1 + 1) _ _)
      rintro ⟨f, n5, H5⟩ ⟨z, f15, hz1, hz2, hz3, k5, f0, f2, f4, f5, f7, f9, f13, f14⟩
      simp only at f15 hz2 hz3 k5 f0 f2 f4 f5 f7 f9 f13 f14
      have hle5 := k5.le
      have hw5 := k5.wf hw3
      have b15 := (k5.keep n (by omega)).trans b13
      have b25 := (k5.keep (n + 1) (by omega)).trans b23
      have hl1 : (es ++ [c]).length = es.length + 1 := by simp
      rw [← hl1] at f15
      have hI5 := dc.st _ _ _ _ n5 H5 hI3 hw3 k5
      have hrec := ihk (es ++ [c]) c (by rw [hl1, hrg]; omega) hc (fun e he => by
          rcases List.mem_append.1 he with he | he
          · exact hes e he
          · have : e = c := by simpa using he
            omega) n5 H5 vs' y' (some ⟨z, 0, none⟩) hw5 (by omega) (fun q hq => (k5.keep q (by omega)).trans (hbase3 q hq)) hI5 (visit_ok _ _ hok _ hvis)
        (.inr ⟨z, 0, _, 3, true, rfl, hz3, by simp, fun i u e => by rw [Nat.zero_add, List.getElem?_map, e]; rfl⟩) (fun b hb => by cases hb; exact ⟨hz2, by show z ≠ o; omega, by show z ≠ y'; omega⟩) hgood'
      rw [← hsub] at hrec
      repeat (first | refine qqm rfl ?_ | ((first | refine qqr ?_ | refine qqt ?_); simp only [SS, qx14, vun, simprocAttr, f0, f2, f5, f7, f9, f13, f14, f15, b15, b25, ndC_all, ndC_len, wy_0, ff_75]))
      refine AtCall.byX hrec ?_
      rintro v n6 H6 k6 ⟨y2, hy2, hI6, rfl⟩
      have hle6 := k6.le
      have hw6 := k6.wf hw5
      have k36 : Kx (fun z => z = o ∨ z = y) (n + 1 + 1) H2 n6 H6 := by
        refine ⟨by omega, fun q hq hX => ?_, fun _ => hw6⟩
        rw [k6.keep q (by omega) (by omega), k5.keep q (by omega)]
        exact k3.keep q hq hX
      obtain ⟨vs2, bb, hvv⟩ : ∃ vs2 bb, visit cont vs' (subC g w rd ah r es sy a x.2.2 c) = (vs2, bb) := ⟨_, _, rfl⟩
      rw [hvv] at hI6
      have hy3 : y2 = y ∨ n + 1 + 1 ≤ y2 := by omega
      rw [hvv]
      cases bb with
      | true =>
        simp only [SS, qx14, vun, simprocAttr, ff_75]
        repeat (first | refine qqm rfl ?_ | ((first | refine qqr ?_ | refine qqt ?_); simp only [SS, qx14, vun, simprocAttr, f14, hw1, ff_75]))
        refine ih (x.2.2 + 1 - (c + 1)) (by omega) _ ?_
        refine ⟨c + 1, y2, vs2, by omega, by omega, ?_, hI6, hy3, k36, f0, f2, f4, f5, f7, f9, f13, rfl, rfl⟩
        rw [hsnoc, visit_append, hvis]
        simp only [if_true]
        exact hvv
      | false =>
        simp only [SS, qx14, vun, simprocAttr, ff_75]
        repeat (first | refine qqm rfl ?_ | ((first | refine qqr ?_ | refine qqt ?_); simp only [SS, qx14, vun, simprocAttr, ff_75]))
        (first | refine WK.retNil ⟨Or.inr rfl, _, rfl, ?_, ?_⟩ | refine WK.skipNil ⟨Or.inl rfl, _, rfl, ?_, ?_⟩)
        · intro q hq hX
          exact (k36.keep q (by omega) hX).trans (k2.keep q hq)
        · simp only [packed, fset_apply, Nat.reduceEqDiff, ↓reduceIte, List.getD_cons_zero, List.getD_cons_succ, ff_75]
          have hfull : visit cont vs (subW g w rd ah r es a x.2.2) = (vs2, false) := by
            rw [hLs, range_split hac hc, List.flatMap_append, visit_append, hvis]
            simp only [if_true, List.flatMap_cons]
            rw [visit_append, hvv]
            simp
          rw [hfull]
          exact ⟨y2, by omega, hI6, rfl⟩
theorem ofv_range {v : Int} {a b : Nat} (hab : a ≤ b) (hb : b ≤ g.rules.length) (h1 : ∀ r, r < a → lft g r ≠ v) (h2 : ∀ r, a ≤ r → r < b → lft g r = v) (h3 : ∀ r, b ≤ r → r < g.rules.length → lft g r ≠ v) : ofv g v = List.range' a (b - a) := by
 unfold ofv
 have e1 : List.range g.rules.length = List.range' 0 a ++ (List.range' a (b - a) ++ List.range' b (g.rules.length - b)) := by
  have e2 : a + 1 * (b - a) = b := by omega
  have e3 : 0 + 1 * a = a := by omega
  rw [List.range_eq_range']
  have e4 : g.rules.length = a + ((b - a) + (g.rules.length - b)) := by omega
  conv => lhs; rw [e4]
  rw [← List.range'_append, ← List.range'_append, e3, e2]
 rw [e1, List.filter_append, List.filter_append]
 have f1 : (List.range' 0 a).filter (fun r => decide (lft g r = v)) = [] := by
  rw [List.filter_eq_nil_iff]
  intro r hr
  obtain ⟨i, hi, rfl⟩ := List.mem_range'.1 hr
  simpa using h1 _ (by omega)
 have f2 : (List.range' a (b - a)).filter (fun r => decide (lft g r = v)) = List.range' a (b - a) := by
  rw [List.filter_eq_self]
  intro r hr
  obtain ⟨i, hi, rfl⟩ := List.mem_range'.1 hr
  simpa using h2 _ (by omega) (by omega)
 have f3 : (List.range' b (g.rules.length - b)).filter (fun r => decide (lft g r = v)) = [] := by
  rw [List.filter_eq_nil_iff]
  intro r hr
  obtain ⟨i, hi, rfl⟩ := List.mem_range'.1 hr
  simpa using h3 _ (by omega) (by omega)
 rw [f1, f2, f3]; simp
theorem ways_sub {ah : Nat} {x : Nd} : waysL g w rd ah x = (ofv g x.1).flatMap fun r => subW g w rd ah r [] x.2.1 x.2.2 := by
 unfold waysL subW
 simp
set_option maxHeartbeats 16000000 in
theorem ways_gives (hw0 : WF N H0) (hf0 : FO H0 fo m pt pv pr pw g w) (hm0 : MR H0 m ks rd) (hwl : w.length ≤ 10) (sg : Sgm g) (dc : DoC N H0 F captured o I cont good) {x : Nd} (hx1 : x.2.1 ≤ x.2.2) (hx2 : x.2.2 ≤ w.length) {ah : Nat} (hah : ah ≤ 1000000)
  {n : Nat} {H : Heap} {vs : List Fo.Way} {y : Nat} (hw : WF n H) (hNn : N ≤ n) (hbase : ∀ z, z < N → H z = H0 z) (hI : I vs y n H) (hok : okv cont vs) (hgood : ∀ v ∈ waysL g w rd ah x, good v) :
  GivesX Try.prog (fun z => z = o ∨ z = y) 56 [.pointer (some ⟨fo, 0, none⟩), ndV x, .int .i64 (ah : Nat), .func (.func F) #[] captured.toArray] n H
   fun _ n' H' => ∃ y', (y' = y ∨ n ≤ y') ∧ I (visit cont vs (waysL g w rd ah x)).1 y' n' H' := by
 refine GivesX.of orders ok56 (Nat.le_of_ble_eq_true rfl) ?_
 obtain ⟨lo1, lo2, lo3, lo4⟩ := dc.lo _ _ _ _ hI
 have kb : Kp N H0 n H := ⟨hNn, hbase, fun _ => hw⟩
 have hf := hf0.mono hw0 kb
 have hfo := hf.f
 have k2 := Kp.new n H (.cells (ndC x) 67 true)
 have b1 := hset_at H n (.cells (ndC x) 67 true)
 repeat refine qqn rfl ?_
 (refine qqr ?_; simp only [SS, qx29, vun, simprocAttr, abox, ndC_cells, ndC_one, ndV, ff_56])
 generalize hset H n (.cells (ndC x) 67 true) = H2 at *
 have hw2 := k2.wf hw
 have hfo2 := (k2.keep fo (live_m hw (by rw [hfo]; intro e; cases e))).trans hfo
 have hI2 := dc.st _ _ _ _ (n + 1) H2 hI hw k2
 repeat (first | refine qqm rfl ?_ | ((first | refine qqr ?_ | refine qqt ?_); simp only [SS, qx29, vun, simprocAttr, hfo2, fo_g, fo_len, aop_nc, tnc, b1, ndC_0, ff_56]))
 refine AtCall.by (rules_gives (v := x.1) hw2 (hf.mono hw k2).r sg.rules sg.up) ?_
 rintro v n3 H3 k3 ⟨a, b, rfl, hab, hb, h1, h2, h3⟩
 have hle3 := k3.le
 have hw3 := k3.wf hw2
 have hI3 := dc.st _ _ _ _ n3 H3 hI2 hw2 k3
 have b3 := (k3.keep n (by omega)).trans b1
 have hof := ofv_range hab hb h1 h2 h3
 simp only [SS, qx29, vun, simprocAttr, ff_56]
 repeat (first | refine qqm rfl ?_ | ((first | refine qqr ?_ | refine qqt ?_); simp only [SS, qx29, vun, simprocAttr, ff_56]))
 refine WK.loop (fun kk s => ∃ (r y' : Nat) (vs' : List Fo.Way), a ≤ r ∧ r ≤ b ∧ visit cont vs ((List.range' a (r - a)).flatMap fun r => subW g w rd ah r [] x.2.1 x.2.2) = (vs', true) ∧ I vs' y' s.n s.H ∧ (y' = y ∨ n + 1 ≤ y') ∧ Kx (fun z => z = o ∨ z = y) (n + 1) H2 s.n s.H ∧
  s.f 0 = .pointer (some ⟨fo, 0, none⟩) ∧ s.f 2 = .int .i64 (ah : Nat) ∧ s.f 3 = .func (.func F) #[] captured.toArray ∧ s.f 5 = .pointer (some ⟨n, 0, none⟩) ∧ s.f 9 = .int .i64 (b : Nat) ∧ s.f 10 = .int .i64 (r : Nat) ∧ kk = b - r) (b - a) ?_ ?_
 ·exact ⟨a, y, vs, Nat.le_refl _, hab, by simp [visit], hI3, .inl rfl, k3.kx, rfl, rfl, rfl, rfl, rfl, rfl, rfl⟩
 clear hI3 b3
 rintro kk ⟨f, n4, H4⟩ ⟨r, y', vs', har, hrb, hvis, hI4, hy', k4, f0, f2, f3, f5, f9, f10, rfl⟩ ih
 simp only at hI4 k4 f0 f2 f3 f5 f9 f10 ih
 have hw4 := k4.wf hw2
 have hle4 := k4.le
 have lo5 := (dc.lo _ _ _ _ hI4).2.2.2
 have b4 := (k4.keep n (by omega) (by omega)).trans b1
 have hw1 : IntKind.i64.wrap ((r : Int) + 1) = ((r + 1 : Nat) : Int) := by have := sg.rules; rw [wrap_in (by omega) (by omega)]; rfl
 by_cases hr : r < b
 case neg =>
  have hr' : ((r : Int) < (b : Int)) = False := by simp only [eq_iff_iff, iff_false]; omega
  obtain rfl : r = b := by omega
  repeat (first | refine qqm rfl ?_ | ((first | refine qqr ?_ | refine qqt ?_); simp only [SS, qx29, vun, simprocAttr, f9, f10, hr', ff_56]))
  (first | refine WK.retNil ⟨Or.inr rfl, _, rfl, ?_, ?_⟩ | refine WK.skipNil ⟨Or.inl rfl, _, rfl, ?_, ?_⟩)
  ·intro z hz hX
   exact (k4.keep z (by omega) hX).trans (k2.keep z hz)
  ·simp only [packed, fset_apply, Nat.reduceEqDiff, ↓reduceIte, List.getD_cons_zero, List.getD_cons_succ, ff_56]
   rw [ways_sub, hof, hvis]
   exact ⟨y', by omega, hI4⟩
 have hr' : ((r : Int) < (b : Int)) = True := by simp only [eq_iff_iff, iff_true]; omega
 have hbase4 : ∀ z, z < N → H4 z = H0 z := fun z hz => (k4.keep z (by omega) (by omega)).trans ((k2.keep z (by omega)).trans (hbase z hz))
 have hrm : r ∈ ofv g x.1 := by rw [hof]; exact List.mem_range'.2 ⟨r - a, by omega, by omega⟩
 have hcall := split_gives hw0 hf0 hm0 hwl sg dc hx2 hah (r := r) (by omega) (rgt g r).length [] x.2.1 (by simp) hx1 (fun e he => by cases he) n4 H4 vs' y' none hw4 (by omega) hbase4 hI4 (visit_ok _ _ hok _ hvis) (.inl ⟨rfl, rfl⟩) (fun b hb => by cases hb) (fun v hv => hgood v (by
  rw [ways_sub]; exact List.mem_flatMap.2 ⟨r, hrm, hv⟩))
 repeat (first | refine qqm rfl ?_ | ((first | refine qqr ?_ | refine qqt ?_); simp only [SS, qx29, vun, simprocAttr, f0, f2, f3, f5, f9, f10, hr', b4, ndC_all, ndC_len, ndC_1, ff_56]))
 refine AtCall.byX hcall ?_
 rintro v n5 H5 k5 ⟨y2, hy2, hI5, rfl⟩
 have hle5 := k5.le
 have hw5 := k5.wf hw4
 have k25 : Kx (fun z => z = o ∨ z = y) (n + 1) H2 n5 H5 := by
  refine ⟨by omega, fun q hq hX => ?_, fun _ => hw5⟩
  rw [k5.keep q (by omega) (by omega)]
  exact k4.keep q hq hX
 obtain ⟨vs2, bb, hvv⟩ : ∃ vs2 bb, visit cont vs' (subW g w rd ah r [] x.2.1 x.2.2) = (vs2, bb) := ⟨_, _, rfl⟩
 rw [hvv] at hI5
 rw [hvv]
 have hsnoc : (List.range' a (r + 1 - a)).flatMap (fun r => subW g w rd ah r [] x.2.1 x.2.2) = (List.range' a (r - a)).flatMap (fun r => subW g w rd ah r [] x.2.1 x.2.2) ++ subW g w rd ah r [] x.2.1 x.2.2 := by
  rw [range_snoc har, List.flatMap_append]; simp
 cases bb with
 | true =>
  simp only [SS, qx29, vun, simprocAttr, ff_56]
  repeat (first | refine qqm rfl ?_ | ((first | refine qqr ?_ | refine qqt ?_); simp only [SS, qx29, vun, simprocAttr, f10, hw1, ff_56]))
  refine ih (b - (r + 1)) (by omega) _ ?_
  refine ⟨r + 1, y2, vs2, by omega, by omega, ?_, hI5, by omega, k25, f0, f2, f3, f5, f9, rfl, rfl⟩
  rw [hsnoc, visit_append, hvis]
  simp only [if_true]
  exact hvv
 | false =>
  simp only [SS, qx29, vun, simprocAttr, ff_56]
  repeat (first | refine qqm rfl ?_ | ((first | refine qqr ?_ | refine qqt ?_); simp only [SS, qx29, vun, simprocAttr, ff_56]))
  (first | refine WK.retNil ⟨Or.inr rfl, _, rfl, ?_, ?_⟩ | refine WK.skipNil ⟨Or.inl rfl, _, rfl, ?_, ?_⟩)
  ·intro q hq hX
   exact (k25.keep q (by omega) hX).trans (k2.keep q hq)
  ·simp only [packed, fset_apply, Nat.reduceEqDiff, ↓reduceIte, List.getD_cons_zero, List.getD_cons_succ, ff_56]
   have hfull : visit cont vs (waysL g w rd ah x) = (vs2, false) := by
    have e : b - a = (b - 1) + 1 - a := by omega
    rw [ways_sub, hof, e, range_split (c := r) har (by omega), List.flatMap_append, visit_append, hvis]
    simp only [if_true, List.flatMap_cons]
    rw [visit_append, hvv]
    simp
   rw [hfull]
   exact ⟨y2, by omega, hI5⟩
end
end Go.Proofs.Ytemkglelfeidhaa
