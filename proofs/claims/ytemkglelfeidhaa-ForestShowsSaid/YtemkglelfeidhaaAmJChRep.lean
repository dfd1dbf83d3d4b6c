/- A part of a proof. Its conditions: none. -/
import Derived.Test.YtemkglelfeidhaaAmJFoEnds
import Derived.Test.YtemkglelfeidhaaAmJFacts
import Derived.Test.YtemkglelfeidhaaAmC
import Derived.Test.YtemkglelfeidhaaAmD
set_option linter.all false
namespace Go.Proofs.Ytemkglelfeidhaa
open Go.AM Go.AM.Fo Go.RowKit
set_option maxRecDepth 100000
theorem RR.same {H H' : Heap} {a : Option Addr} {l : List GRule} (h : RR H a l) (hk : ∀ z cs ty own, H z = .cells cs ty own → H' z = .cells cs ty own) : RR H' a l := by
 intro hl
 obtain ⟨x, k, cs, ty, own, e1, e2, e3⟩ := h hl
 refine ⟨x, k, cs, ty, own, e1, hk _ _ _ _ e2, fun i r hi => ?_⟩
 obtain ⟨p, c1, c2, c3, c4⟩ := e3 i r hi
 refine ⟨p, c1, c2, c3, ?_⟩
 rcases c4 with h | ⟨x, k, cs, ty, own, q1, q2, q3, q4⟩
 ·exact .inl h
 ·exact .inr ⟨x, k, cs, ty, own, q1, hk _ _ _ _ q2, q3, q4⟩
theorem FO.same {H H' : Heap} {fo m : Nat} {pt pv pr pw : Option Addr} {g : Gram} {w : List Int} (h : FO H fo m pt pv pr pw g w) (hk : ∀ z cs ty own, H z = .cells cs ty own → H' z = .cells cs ty own) : FO H' fo m pt pv pr pw g w :=
 ⟨hk _ _ _ _ h.f, RR.same h.r hk, fun hl => by
  obtain ⟨x, k, cs, ty, own, e1, e2, e3⟩ := h.w hl
  exact ⟨x, k, cs, ty, own, e1, hk _ _ _ _ e2, e3⟩⟩
def Fnm (g : Gram) (w : List Int) (rd : Nd → Nat) (i a : Nat) (x : Nd) : Prop := rd x = 0 ∧ x.2.2 ≤ w.length ∧ ∃ r, r < g.rules.length ∧ (r < i ∧ x.2.1 ≤ w.length ∨ r = i ∧ x.2.1 < a) ∧ lft g r = x.1 ∧ Fo.Ends w rd (rgt g r) x.2.1 x.2.2
theorem fnm_next {g : Gram} {w : List Int} {rd : Nd → Nat} {i : Nat} {x : Nd} : Fnm g w rd i (w.length + 1) x ↔ Fnm g w rd (i + 1) 0 x := by
 unfold Fnm
 refine and_congr_right fun _ => and_congr_right fun _ => exists_congr fun r => and_congr_right fun _ => and_congr_left fun _ => ?_
 omega
theorem fnm_all {g : Gram} {w : List Int} {rd : Nd → Nat} {x : Nd} : Fnm g w rd g.rules.length 0 x ↔ rd x = 0 ∧ Fnd g w rd x := by
 rw [fnd_iff]
 unfold Fnm
 refine and_congr_right fun _ => and_congr_right fun h => exists_congr fun r => ?_
 constructor
 ·rintro ⟨h1, h2, h3, h4⟩; exact ⟨h1, h3, h4⟩
 ·rintro ⟨h1, h3, h4⟩
  have := h4.le
  exact ⟨h1, .inl ⟨h1, by omega⟩, h3, h4⟩
theorem ndcs_len (l : List Nd) : (l.flatMap ndC).length = l.length * 3 := by
 induction l with
 | nil => rfl
 | cons x l ih => rw [List.flatMap_cons, List.length_append, ih, ndC_len, List.length_cons]; omega
theorem ndcs_at {l : List Nd} {i : Nat} {x : Nd} (h : l[i]? = some x) : ((l.flatMap ndC).drop (i * 3)).take 3 = ndC x := by
 induction l generalizing i with
 | nil => simp at h
 | cons y l ih =>
  rw [List.flatMap_cons]
  cases i with
  | zero => simp at h; subst h; rfl
  | succ i =>
   have e : (i + 1) * 3 = (ndC y).length + i * 3 := by rw [ndC_len]; omega
   rw [e, List.drop_append, List.drop_eq_nil_of_le (by omega), List.nil_append, Nat.add_sub_cancel_left]
   exact ih (by simpa using h)
def NL (H : Heap) (N : Nat) (v : Value) (l : List Nd) : Prop := (l = [] ∧ v = .slice none 0 0) ∨ (l ≠ [] ∧ ∃ z, v = .slice (some ⟨z, 0, none⟩) l.length l.length ∧ N ≤ z ∧ H z = .cells (l.flatMap ndC) 67 true)
def rdj (rd : Nd → Nat) (fl : List Nd) (r j : Nat) (x : Nd) : Nat := if rd x ≠ 0 then rd x else if x ∈ fl.take j then r else 0
theorem rdj_zero (rd : Nd → Nat) (fl : List Nd) (r : Nat) : rdj rd fl r 0 = rd := by
 funext x
 unfold rdj
 by_cases h : rd x ≠ 0
 ·rw [if_pos h]
 ·rw [if_neg h]; simp; omega
theorem live_m {n : Nat} {H : Heap} (hw : WF n H) {z : Nat} (h : H z ≠ .dead) : z < n := by
 apply Classical.byContradiction
 intro hc
 exact h (hw z (by omega))
set_option maxHeartbeats 16000000 in
theorem more_gives {fo m : Nat} {pt pv pr pw : Option Addr} {g : Gram} {w : List Int} {ks : List Nd} {rd : Nd → Nat} {n0 : Nat} {H0 : Heap} (hw0 : WF n0 H0) (hf0 : FO H0 fo m pt pv pr pw g w) (hm0 : MR H0 m ks rd) (hwl : w.length ≤ 10) (sg : Sgm g)
    {r : Nat} (hr0 : 0 < r) (hr1 : r ≤ 1000000) :
    GivesXD Try.prog (fun z => z = m) 34 [.pointer (some ⟨fo, 0, none⟩), .int .i64 (r : Nat)] n0 H0 fun v n' H' => ∃ (ks' : List Nd) (rd' : Nd → Nat) (b : Bool), v = .bool b ∧ FO H' fo m pt pv pr pw g w ∧ MR H' m ks' rd' ∧ (∀ x, rd x ≠ 0 → rd' x = rd x) ∧ (∀ x, rd x = 0 → (rd' x ≠ 0 ↔ Fnd g w rd x) ∧ (rd' x ≠ 0 → rd' x = r)) ∧
      ks.length ≤ ks'.length ∧ (b = true → ks.length < ks'.length) ∧ (b = false → ∀ x, rd x = 0 → ¬ Fnd g w rd x) := by
  refine GivesXD.of orders ok34 (Nat.le_of_ble_eq_true rfl) ?_
  have hfo := hf0.f
  repeat (first | refine qdm rfl ?_ | ((first | refine qdr ?_ | refine qdt ?_); simp only [SS, qx15, y3, simprocAttr, -Int.reduceOfNat, -List.reduceReplicate, hfo, fo_2, aop_nc, tnc, ff_34]))
  refine WKD.loop (fun kk s => ∃ (i : Nat) (fl : List Nd), i ≤ g.rules.length ∧ Kp n0 H0 s.n s.H ∧ NL s.H n0 (s.f 5) fl ∧ fl.length ≤ i * 200 ∧ (∀ x, x ∈ fl ↔ Fnm g w rd i 0 x) ∧
    s.f 0 = .pointer (some ⟨fo, 0, none⟩) ∧ s.f 1 = .int .i64 (r : Nat) ∧ s.f 17 = .slice pr g.rules.length g.rules.length ∧ s.f 18 = .int .i64 (g.rules.length : Nat) ∧ s.f 19 = .int .i64 (i : Nat) ∧ kk = g.rules.length - i) g.rules.length ?_ ?_
  · refine ⟨0, [], Nat.zero_le _, Kp.refl _ _, .inl ⟨rfl, rfl⟩, by simp, fun x => ⟨(fun h => by cases h), ?_⟩, rfl, rfl, rfl, rfl, rfl, rfl⟩
    rintro ⟨_, _, r', h1, h2, _⟩
    omega
  rintro kk ⟨f, n3, H3⟩ ⟨i, fl, hi, k3, hnl, hfl, hmem, f0, f1, f17, f18, f19, rfl⟩ ih
  simp only at k3 hnl f0 f1 f17 f18 f19 ih
  have hw3 := k3.wf hw0
  have hle3 := k3.le
  by_cases hil : i < g.rules.length
  case neg =>
    have hil' : ((i : Int) < (g.rules.length : Int)) = False := by simp only [eq_iff_iff, iff_false]; omega
    obtain rfl : i = g.rules.length := by omega
    have hflb : fl.length ≤ 4800 := by have := sg.rules; omega
    have hmf : ∀ y, y ∈ fl ↔ rd y = 0 ∧ Fnd g w rd y := fun y => by rw [hmem y, fnm_all]
    have hms : ∀ y, y ∈ fl → smN y := fun y hy => by
      obtain ⟨h1, h2⟩ := (hmf y).1 hy
      obtain ⟨h3, r', h4, h5, h6⟩ := fnd_iff.1 h2
      have h7 := h6.le
      have h8 := sg.lft (List.getElem_mem h4)
      rw [lfF_eq h4] at h5
      unfold smN
      omega
    have hmn : m < n0 := live_m hw0 (by rw [hm0.m]; intro e; cases e)
    have hlen : ∃ (p5 : Option Addr), f 5 = .slice p5 fl.length fl.length := by
      rcases hnl with ⟨h1, h2⟩ | ⟨_, z, h2, _⟩
      · exact ⟨none, by rw [h2, h1]; rfl⟩
      · exact ⟨_, h2⟩
    obtain ⟨p5, h5⟩ := hlen
    rw [h5] at hnl
    repeat (first | refine qdm rfl ?_ | ((first | refine qdr ?_ | refine qdt ?_); simp only [SS, qx15, y3, simprocAttr, -Int.reduceOfNat, -List.reduceReplicate, f18, f19, hil', h5, ff_34]))
    refine WKD.loop (fun kk s => ∃ (j : Nat) (ks2 : List Nd), j ≤ fl.length ∧ Kx (fun z => z = m) n0 H0 s.n s.H ∧ FO s.H fo m pt pv pr pw g w ∧ MR s.H m ks2 (rdj rd fl r j) ∧ ks.length ≤ ks2.length ∧ (0 < j → ks.length < ks2.length) ∧ NL s.H n0 (.slice p5 fl.length fl.length) fl ∧
      s.f 0 = .pointer (some ⟨fo, 0, none⟩) ∧ s.f 1 = .int .i64 (r : Nat) ∧ s.f 5 = .slice p5 fl.length fl.length ∧ s.f 59 = .slice p5 fl.length fl.length ∧ s.f 60 = .int .i64 (fl.length : Nat) ∧ s.f 61 = .int .i64 (j : Nat) ∧ kk = fl.length - j) fl.length ?_ ?_
    · exact ⟨0, ks, Nat.zero_le _, k3.kx, hf0.mono hw0 k3, by rw [rdj_zero]; exact hm0.mono hw0 k3, Nat.le_refl _, fun h => absurd h (Nat.lt_irrefl _), hnl, f0, f1, h5, rfl, rfl, rfl, rfl⟩
    clear hnl f0 f1 f17 f18 f19 h5 k3
    rintro kk ⟨f, n5, H5⟩ ⟨j, ks2, hj, k5, hf5, hm5, hk1, hk2, hnl, f0, f1, f5, f59, f60, f61, rfl⟩ ih2
    simp only at k5 hf5 hm5 hnl f0 f1 f5 f59 f60 f61 ih ih2
    have hw5 := k5.wf hw0
    have hle5 := k5.le
    by_cases hjl : j < fl.length
    case neg =>
      have hjl' : ((j : Int) < (fl.length : Int)) = False := by simp only [eq_iff_iff, iff_false]; omega
      obtain rfl : j = fl.length := by omega
      repeat (first | refine qdm rfl ?_ | ((first | refine qdr ?_ | refine qdt ?_); simp only [SS, qx15, y3, simprocAttr, -Int.reduceOfNat, -List.reduceReplicate, f5, f60, f61, hjl', ff_34]))
      (first | refine WKD.retNil ⟨Or.inr rfl, _, rfl, ?_, ?_⟩ | refine WKD.skipNil ⟨Or.inl rfl, _, rfl, ?_, ?_⟩)
      · exact fun z hz hX => k5.keep z hz hX
      · simp only [packed, fset_apply, Nat.reduceEqDiff, ↓reduceIte, List.getD_cons_zero, List.getD_cons_succ, ff_34]
        have hfull : ∀ y, rdj rd fl r fl.length y = if rd y ≠ 0 then rd y else if y ∈ fl then r else 0 := fun y => by unfold rdj; rw [List.take_length]
        refine ⟨ks2, rdj rd fl r fl.length, _, rfl, hf5, hm5, fun y hy => by rw [hfull, if_pos hy], fun y hy => ?_, hk1, fun hb => ?_, fun hb y hy hF => ?_⟩
        · rw [hfull, if_neg (by omega)]
          by_cases hyf : y ∈ fl
          · rw [if_pos hyf]
            exact ⟨⟨fun _ => ((hmf y).1 hyf).2, fun _ => by omega⟩, fun _ => rfl⟩
          · rw [if_neg hyf]
            exact ⟨⟨fun h => absurd rfl h, fun h => absurd ((hmf y).2 ⟨hy, h⟩) hyf⟩, fun h => absurd rfl h⟩
        · have : (0 : Int) < (fl.length : Int) := by simpa using hb
          exact hk2 (by omega)
        · have h0 : ¬ (0 : Int) < (fl.length : Int) := by simpa using hb
          have := List.length_pos_of_mem ((hmf y).2 ⟨hy, hF⟩)
          omega
    have hjl' : ((j : Int) < (fl.length : Int)) = True := by simp only [eq_iff_iff, iff_true]; omega
    have h0j : (0 : Int) ≤ (j : Int) := Int.natCast_nonneg j
    rcases hnl with ⟨h1, _⟩ | ⟨hne, z, h2, hz0, hz⟩
    · rw [h1] at hjl; simp at hjl
    obtain ⟨rfl, _⟩ : p5 = some ⟨z, 0, none⟩ ∧ True := ⟨by cases h2; rfl, trivial⟩
    obtain ⟨x, hx⟩ : ∃ x, fl[j] = x := ⟨_, rfl⟩
    have hxg : fl[j]? = some x := by rw [List.getElem?_eq_getElem hjl, hx]
    have hxm : x ∈ fl := List.mem_of_getElem? hxg
    have hsx := hms x hxm
    have hat := ndcs_at hxg
    have hln : j * 3 + 3 ≤ (fl.flatMap ndC).length := by rw [ndcs_len]; omega
    have hrx : rd x = 0 := ((hmf x).1 hxm).1
    have hzn : z < n5 := live_m hw5 (by rw [hz]; intro e; cases e)
    have hmz : m ≠ z := by omega
    have hfo5 := hf5.f
    have hfn : fo < n5 := live_m hw5 (by rw [hfo5]; intro e; cases e)
    have q1 : ∀ ob, hset H5 n5 ob fo = H5 fo := fun ob => hset_ne _ _ _ (by omega)
    have q2 : ∀ ob, hset H5 n5 ob m = H5 m := fun ob => hset_ne _ _ _ (by omega)
    have hw1 := wrap_up hjl (show fl.length ≤ maxL by unfold maxL; omega)
    have htk : fl.take (j + 1) = fl.take j ++ [x] := by rw [List.take_succ_eq_append_getElem hjl, hx]
    have hstep : ∀ y, rdj rd fl r (j + 1) y = if y = x then r else rdj rd fl r j y := fun y => by
      unfold rdj
      rw [htk]
      by_cases hy : y = x
      · subst hy; rw [if_neg (by omega), if_pos (by simp), if_pos rfl]
      · rw [if_neg hy]
        have e1 : (y ∈ fl.take j ++ [x]) ↔ y ∈ fl.take j := by simp [hy]
        by_cases hr : rd y ≠ 0
        · rw [if_pos hr, if_pos hr]
        · rw [if_neg hr, if_neg hr]
          by_cases hm : y ∈ fl.take j
          · rw [if_pos hm, if_pos (e1.2 hm)]
          · rw [if_neg hm, if_neg (fun h => hm (e1.1 h))]
    have hvx : valN (rdj rd fl r (j + 1)) x = .int .i64 (r : Nat) := by unfold valN; rw [hstep, if_pos rfl]
    by_cases hxk : x ∈ ks2
    · have hrj : rdj rd fl r j x = r := by
        have h1 := (hm5.mem x).1 hxk
        unfold rdj at h1 ⊢
        rw [if_neg (by omega)] at h1 ⊢
        by_cases hm : x ∈ fl.take j
        · rw [if_pos hm]
        · rw [if_neg hm] at h1; exact absurd rfl h1
      have hsame : rdj rd fl r (j + 1) = rdj rd fl r j := by
        funext y
        rw [hstep]
        by_cases hy : y = x
        · subst hy; rw [if_pos rfl, hrj]
        · rw [if_neg hy]
      have hput := fun (ob : AObj) => gkN.vsame (H := hset H5 n5 ob) (val := valN (rdj rd fl r j)) (k := x) hsx hm5.sm hxk und_mn ((q2 ob).trans hm5.m)
      have hvx2 : valN (rdj rd fl r j) x = .int .i64 (r : Nat) := by unfold valN; rw [hrj]
      rw [hvx2] at hput
      have e6 : ndV x = .agg (ndC x).toArray := rfl
      rw [e6] at hput
      repeat (first | refine qdm rfl ?_ | ((first | refine qdr ?_ | refine qdt ?_); simp only [SS, qx15, y3, simprocAttr, -Int.reduceOfNat, -List.reduceReplicate, f0, f1, f59, f60, f61, hjl', hjl, h0j, hz, hat, hln, ndC_len, ndC_one, ndC_all, ndC_cells, hfo5, q1, fo_4, aop_nc, tnc, sp3, aop_mapset, hput, hset_at, hw1, Int.toNat_natCast, Nat.zero_add, ff_34]))
      have hself : hset (hset H5 n5 (.cells (ndC x) 67 true)) m (.map (vE ndV (valN (rdj rd fl r j)) ks2 0) ks2.length 67) = hset H5 n5 (.cells (ndC x) 67 true) := by
        funext y
        by_cases hy : y = m
        · subst hy; rw [hset_at, q2]; exact hm5.m.symm
        · rw [hset_ne _ _ _ hy]
      rw [hself]
      have kn := Kp.new n5 H5 (.cells (ndC x) 67 true)
      refine ih2 (fl.length - (j + 1)) (by omega) _ ?_
      refine ⟨j + 1, ks2, hjl, k5.trans kn.kx, hf5.mono hw5 kn, by rw [hsame]; exact hm5.mono hw5 kn, hk1, fun _ => ?_, .inr ⟨hne, z, rfl, hz0, (kn.keep z hzn).trans hz⟩, f0, f1, f5, f59, f60, rfl, rfl⟩
      rcases Nat.eq_zero_or_pos j with h0 | h0
      · subst h0
        have h1 := (hm5.mem x).1 hxk
        rw [rdj_zero] at h1
        exact absurd hrx h1
      · exact hk2 h0
    · have hput := fun (ob : AObj) => gkN.vput (H := hset H5 n5 ob) (val := valN (rdj rd fl r j)) (val' := valN (rdj rd fl r (j + 1))) (k := x) hsx hm5.sm hxk und_mn ((q2 ob).trans hm5.m) (fun y hy => by
        unfold valN
        rw [hstep, if_neg (by intro e; subst e; exact hxk hy)])
      rw [hvx] at hput
      have e6 : ndV x = .agg (ndC x).toArray := rfl
      rw [e6] at hput
      repeat (first | refine qdm rfl ?_ | ((first | refine qdr ?_ | refine qdt ?_); simp only [SS, qx15, y3, simprocAttr, -Int.reduceOfNat, -List.reduceReplicate, f0, f1, f59, f60, f61, hjl', hjl, h0j, hz, hat, hln, ndC_len, ndC_one, ndC_all, ndC_cells, hfo5, q1, fo_4, aop_nc, tnc, sp3, aop_mapset, hput, hset_at, hw1, Int.toNat_natCast, Nat.zero_add, ff_34]))
      have kn := Kp.new n5 H5 (.cells (ndC x) 67 true)
      refine ih2 (fl.length - (j + 1)) (by omega) _ ?_
      refine ⟨j + 1, ks2 ++ [x], hjl, (k5.trans kn.kx).set (x := m) _ (.inl rfl) (by omega), ?_, ⟨hset_at _ _ _, ?_, fun y => ?_, fun y hy => ?_⟩, by rw [List.length_append]; omega, fun _ => by rw [List.length_append, List.length_singleton]; omega, .inr ⟨hne, z, rfl, hz0, (hset_ne _ _ _ (Ne.symm hmz)).trans ((kn.keep z hzn).trans hz)⟩, f0, f1, f5, f59, f60, rfl, rfl⟩
      · refine (hf5.mono hw5 kn).same fun y cs ty own hy => ?_
        have : y ≠ m := by intro e; subst e; rw [q2, hm5.m] at hy; cases hy
        exact (hset_ne _ _ _ this).trans hy
      · rw [List.nodup_append]
        refine ⟨hm5.nd, by simp, fun a' ha' b' hb' e => ?_⟩
        have : b' = x := by simpa using hb'
        subst this e
        exact hxk ha'
      · rw [List.mem_append, List.mem_singleton, hm5.mem y, hstep]
        by_cases hy : y = x
        · subst hy; rw [if_pos rfl]
          exact ⟨fun _ => by omega, fun _ => .inr rfl⟩
        · rw [if_neg hy]
          exact ⟨fun h => h.resolve_right hy, fun h => .inl h⟩
      · rcases List.mem_append.1 hy with hy | hy
        · exact hm5.sm y hy
        · have : y = x := by simpa using hy
          rw [this]; exact hsx
  have hil' : ((i : Int) < (g.rules.length : Int)) = True := by simp only [eq_iff_iff, iff_true]; omega
  have h0i : (0 : Int) ≤ (i : Int) := Int.natCast_nonneg i
  have hf3 := hf0.mono hw0 k3
  have hfo3 := hf3.f
  obtain ⟨x, k, xs, xty, xown, p, rfl, hx0, c0, c1, c2, hp⟩ := hf0.r.at hil
  have hx := (k3.keep x (live_lt hw0 (by rw [hx0]; intro e; cases e))).trans hx0
  have e3 := take3 c0 c1 c2
  have l3 := len3 c2
  have hrl : g.rules[i] ∈ g.rules := List.getElem_mem hil
  have hlf := lfF_eq hil
  have hrg := rgF_eq hil
  generalize hgr : g.rules[i] = gr at *
  have e4 : ([.int .i64 gr.left, .slice p gr.right.length gr.right.length, .float .f64 gr.weight] : List Value) = rlC gr p := rfl
  rw [e4] at e3
  have hw1 : IntKind.i64.wrap ((w.length : Int) + 1) = ((w.length + 1 : Nat) : Int) := by rw [wrap_in (by omega) (by omega)]; rfl
  have q1 : ∀ ob, hset H3 n3 ob fo = H3 fo := fun ob => hset_ne _ _ _ (by have := live_lt hw3 (z := fo) (by rw [hfo3]; intro e; cases e); omega)
  have q2 : ∀ ob, hset H3 n3 ob x = H3 x := fun ob => hset_ne _ _ _ (by have := live_lt hw3 (z := x) (by rw [hx]; intro e; cases e); omega)
  repeat (first | refine qdm rfl ?_ | ((first | refine qdr ?_ | refine qdt ?_); simp only [SS, qx15, y3, simprocAttr, -Int.reduceOfNat, -List.reduceReplicate, f0, f17, f18, f19, hil', hil, h0i, hx, e3, l3, hfo3, fo_3, aop_nc, tnc, q1, q2, rl_one, rl_len, rl_all, hw1, Int.toNat_natCast, ff_34]))
  have sp : AM.splice [Value.int IntKind.i64 (Int.ofNat 0), Value.slice none 0 0, Value.float FloatKind.f64 0] 0 (rlC gr p) = rlC gr p := rfl
  rw [sp]
  have k4 := Kp.new n3 H3 (.cells (rlC gr p) 49 true)
  have hb4 := hset_at H3 n3 (.cells (rlC gr p) 49 true)
  have hnl4 : NL (hset H3 n3 (.cells (rlC gr p) 49 true)) n0 (f 5) fl := by
    rcases hnl with h | ⟨h1, z, h2, h3, h4⟩
    · exact .inl h
    · exact .inr ⟨h1, z, h2, h3, (k4.keep z (live_lt hw3 (by rw [h4]; intro e; cases e))).trans h4⟩
  replace k4 := k3.trans k4
  generalize hset H3 n3 (.cells (rlC gr p) 49 true) = H4 at *
  have hgl := sg.lft hrl
  have hgs : ∀ s ∈ gr.right, -100 ≤ s ∧ s < 8 := fun s hs => sg.sym hrl hs
  refine WKD.loop (fun kk s => ∃ (a : Nat) (fl2 : List Nd), a ≤ w.length + 1 ∧ Kp n0 H0 s.n s.H ∧ n3 < s.n ∧ NL s.H n0 (s.f 5) fl2 ∧ fl2.length ≤ i * 200 + a * 11 ∧ (∀ y, y ∈ fl2 ↔ Fnm g w rd i a y) ∧ s.H n3 = .cells (rlC gr p) 49 true ∧
    s.f 0 = .pointer (some ⟨fo, 0, none⟩) ∧ s.f 1 = .int .i64 (r : Nat) ∧ s.f 7 = .pointer (some ⟨n3, 0, none⟩) ∧ s.f 17 = .slice (some ⟨x, k, none⟩) g.rules.length g.rules.length ∧ s.f 18 = .int .i64 (g.rules.length : Nat) ∧ s.f 19 = .int .i64 (i : Nat) ∧ s.f 28 = .int .i64 ((w.length + 1 : Nat) : Int) ∧ s.f 29 = .int .i64 (a : Nat) ∧ kk = w.length + 1 - a) (w.length + 1) ?_ ?_
  · exact ⟨0, fl, Nat.zero_le _, k4, by simp, hnl4, by omega, hmem, hb4, f0, f1, rfl, f17, f18, f19, rfl, rfl, rfl⟩
  clear hnl4 hb4 k4 H4 f0 f1 f17 f18 f19 hnl hx e3 l3 hfo3 hf3 q1 q2 c0 c1 c2
  rintro kk ⟨f, n5, H5⟩ ⟨a, fl2, ha, k5, hn5, hnl5, hfl5, hmem5, hb5, f0, f1, f7, f17, f18, f19, f28, f29, rfl⟩ ih2
  simp only at k5 hn5 hnl5 hb5 f0 f1 f7 f17 f18 f19 f28 f29 ih ih2
  have hw5 := k5.wf hw0
  have hle5 := k5.le
  by_cases hal : a < w.length + 1
  case neg =>
    have hal' : ((a : Int) < ((w.length + 1 : Nat) : Int)) = False := by simp only [eq_iff_iff, iff_false]; omega
    obtain rfl : a = w.length + 1 := by omega
    repeat (first | refine qdm rfl ?_ | ((first | refine qdr ?_ | refine qdt ?_); simp only [SS, qx15, y3, simprocAttr, -Int.reduceOfNat, -List.reduceReplicate, f19, f28, f29, hal', ff_34]))
    refine ih (g.rules.length - (i + 1)) (by omega) _ ?_
    refine ⟨i + 1, fl2, hil, k5, hnl5, by omega, fun y => by rw [hmem5 y, fnm_next], f0, f1, f17, f18, ?_, rfl⟩
    simp only [packed, fset_apply, Nat.reduceEqDiff, ↓reduceIte, List.getD_cons_zero, List.getD_cons_succ, f19, wrap_up hil (show g.rules.length ≤ maxL by have := sg.rules; unfold maxL; omega), ff_34]
  have hal' : ((a : Int) < ((w.length + 1 : Nat) : Int)) = True := by simp only [eq_iff_iff, iff_true]; omega
  have hf5 := hf0.mono hw0 k5
  have hm5 := hm0.mono hw0 k5
  have hp5 := hp.mono hw0 k5
  have h0a : (0 : Int) ≤ (a : Int) := Int.natCast_nonneg a
  repeat (first | refine qdm rfl ?_ | ((first | refine qdr ?_ | refine qdt ?_); simp only [SS, qx15, y3, simprocAttr, -Int.reduceOfNat, -List.reduceReplicate, f0, f7, f28, f29, hal', hb5, rl_one, rl_len, rl_all, ff_34]))
  refine AtCallY.byD (ends_gives (a := a) hw5 hf5 hm5 hwl (sg.r8 _ hrl) hgs hp5 (by omega)) ?_
  rintro v n6 H6 k56 ⟨y, cs, rfl, hst, hnd, hcm⟩
  have hw6 := k56.wf hw5
  have hle6 := k56.le
  have hcl : ∀ c, c ∈ cs → c ≤ w.length := fun c hc => ((hcm c).1 hc).1
  have hclen : cs.length ≤ 11 := by have := nodup_bnd hnd hcl; omega
  simp only [SS, qx15, y3, simprocAttr, -Int.reduceOfNat, -List.reduceReplicate, ff_34]
  refine AtRange.by und_mb hst ?_
  simp only [SS, qx15, y3, simprocAttr, -Int.reduceOfNat, -List.reduceReplicate, ff_34]
  repeat refine qdn rfl ?_
  have hyn : y < n6 := live_lt hw6 (by rw [hst]; intro e; cases e)
  have k67 := Kp.new n6 H6 (.iter y cs.length [] cs.length)
  have hit : hset H6 n6 (.iter y cs.length [] cs.length) n6 = .iter y cs.length [] cs.length := hset_at _ _ _
  have hst7 : ST (hset H6 n6 (.iter y cs.length [] cs.length)) y cs := (k67.keep y hyn).trans hst
  have hnl7 : NL (hset H6 n6 (.iter y cs.length [] cs.length)) n0 (f 5) fl2 := by
    rcases hnl5 with h | ⟨h1, z, h2, h3, h4⟩
    · exact .inl h
    · exact .inr ⟨h1, z, h2, h3, ((k56.trans k67).keep z (live_lt hw5 (by rw [h4]; intro e; cases e))).trans h4⟩
  have hb7 := ((k56.trans k67).keep n3 hn5).trans hb5
  have k37 := k5.trans (k56.trans k67)
  generalize hset H6 n6 (.iter y cs.length [] cs.length) = H7 at *
  refine WKD.loop (fun kk s' => ∃ (sn : List Nat) (fl3 : List Nd), Kp n0 H0 s'.n s'.H ∧ n6 < s'.n ∧ s'.H n6 = .iter y cs.length sn cs.length ∧ ST s'.H y cs ∧ NL s'.H n0 (s'.f 5) fl3 ∧ fl3.length ≤ i * 200 + a * 11 + sn.length ∧
    (∀ z, z ∈ fl3 ↔ Fnm g w rd i a z ∨ (rd z = 0 ∧ z.1 = gr.left ∧ z.2.1 = a ∧ ∃ j, j ∈ sn ∧ cs[j]? = some z.2.2)) ∧ sn.Nodup ∧ (∀ j, j ∈ sn → j < cs.length) ∧ s'.H n3 = .cells (rlC gr p) 49 true ∧
    s'.f 0 = .pointer (some ⟨fo, 0, none⟩) ∧ s'.f 1 = .int .i64 (r : Nat) ∧ s'.f 7 = .pointer (some ⟨n3, 0, none⟩) ∧ s'.f 8 = .int .i64 (a : Nat) ∧ s'.f 17 = .slice (some ⟨x, k, none⟩) g.rules.length g.rules.length ∧ s'.f 18 = .int .i64 (g.rules.length : Nat) ∧ s'.f 19 = .int .i64 (i : Nat) ∧ s'.f 28 = .int .i64 ((w.length + 1 : Nat) : Int) ∧ s'.f 29 = .int .i64 (a : Nat) ∧
    s'.f 36 = .pointer (some ⟨n6, 0, none⟩) ∧ kk = cs.length - sn.length) cs.length ?_ ?_
  · refine ⟨[], fl2, k37, by simp, hit, hst7, hnl7, by simpa using hfl5, fun z => ?_, by simp, (fun j hj => by cases hj), hb7, f0, f1, f7, rfl, f17, f18, f19, f28, f29, rfl, by simp⟩
    rw [hmem5 z]
    constructor
    · intro h; exact .inl h
    · rintro (h | ⟨_, _, _, j, hj, _⟩)
      · exact h
      · cases hj
  clear hit hst7 hnl7 hb7 k37 H7 f0 f1 f7 f17 f18 f19 f28 f29 k67 hnl5 hb5 hst hm5 hf5 hp5 k56
  rintro kk ⟨f, n8, H8⟩ ⟨sn, fl3, k38, hn8, hit, hst, hnl, hfl, hmem8, hsn, hsl, hb8, f0, f1, f7, f8, f17, f18, f19, f28, f29, f36, rfl⟩ ih3
  simp only at k38 hn8 hit hst hnl hb8 f0 f1 f7 f8 f17 f18 f19 f28 f29 f36 ih ih2 ih3
  have hw8 := k38.wf hw0
  have hw1 : IntKind.i64.wrap ((a : Int) + 1) = ((a + 1 : Nat) : Int) := by rw [wrap_in (by omega) (by omega)]; rfl
  repeat refine qdn rfl ?_
  (refine qdr ?_; simp only [SS, qx15, y3, simprocAttr, -Int.reduceOfNat, -List.reduceReplicate, f36, ff_34])
  refine AtNext.by hit hst vE_lt (Nat.le_refl _) (fun hall => ?_) (fun e he hen => ?_)
  · simp only [SS, qx15, y3, simprocAttr, -Int.reduceOfNat, -List.reduceReplicate, ff_34]
    repeat (first | refine qdm rfl ?_ | ((first | refine qdr ?_ | refine qdt ?_); simp only [SS, qx15, y3, simprocAttr, -Int.reduceOfNat, -List.reduceReplicate, f29, hw1, ff_34]))
    have hsl2 : sn.length ≤ 11 := by
      have := nodup_bnd (k := 10) hsn fun q hq => by have := hsl q hq; omega
      omega
    refine ih2 (w.length + 1 - (a + 1)) (by omega) _ ?_
    refine ⟨a + 1, fl3, by omega, k38, by show n3 < n8; omega, hnl, by omega, fun z => ?_, hb8, f0, f1, f7, f17, f18, f19, f28, rfl, rfl⟩
    rw [hmem8 z]
    unfold Fnm
    constructor
    · rintro (⟨h1, h2, r', h3, h4, h5, h6⟩ | ⟨h1, h2, h3, j, hj, hjz⟩)
      · exact ⟨h1, h2, r', h3, by omega, h5, h6⟩
      · obtain ⟨q1, q2⟩ := (hcm _).1 (List.mem_of_getElem? hjz)
        exact ⟨h1, q1, i, hil, .inr ⟨rfl, by omega⟩, by rw [hlf, h2], by rw [hrg, h3]; exact q2⟩
    · rintro ⟨h1, h2, r', h3, h4, h5, h6⟩
      by_cases hc : r' = i ∧ z.2.1 = a
      · obtain ⟨rfl, e2⟩ := hc
        right
        rw [hrg, e2] at h6
        have hz := (hcm _).2 ⟨h2, h6⟩
        obtain ⟨j, hj, hje⟩ := List.getElem_of_mem hz
        have hjz : cs[j]? = some z.2.2 := by rw [List.getElem?_eq_getElem hj, hje]
        exact ⟨h1, by rw [← h5, hlf], e2, j, hall _ (vE_in hjz), hjz⟩
      · exact .inl ⟨h1, h2, r', h3, by omega, h5, h6⟩
  · obtain ⟨j, c, hj, rfl⟩ := vE_mem he
    simp only at hen
    have hjl : j < cs.length := (List.getElem?_eq_some_iff.1 hj).1
    have hccl := hcl c (List.mem_of_getElem? hj)
    simp only [SS, qx15, y3, simprocAttr, -Int.reduceOfNat, -List.reduceReplicate, natE, tru, ff_34]
    repeat refine qdn rfl ?_
    refine qdm rfl ?_
    repeat refine qdn rfl ?_
    have hit9 := hset_at H8 n6 (.iter y cs.length (sn ++ [j]) cs.length)
    have k9 := k38.set (x := n6) (.iter y cs.length (sn ++ [j]) cs.length) (by omega) hn8
    have hst9 : ST (hset H8 n6 (.iter y cs.length (sn ++ [j]) cs.length)) y cs := (hset_ne _ _ _ (by omega)).trans hst
    have hb9 := (hset_ne H8 n6 (.iter y cs.length (sn ++ [j]) cs.length) (x := n3) (by omega)).trans hb8
    have hnl9 : NL (hset H8 n6 (.iter y cs.length (sn ++ [j]) cs.length)) n0 (f 5) fl3 := by
      rcases hnl with h | ⟨h1, z, h2, h3, h4⟩
      · exact .inl h
      · exact .inr ⟨h1, z, h2, h3, (hset_ne _ _ _ (by intro e; subst e; rw [hit] at h4; cases h4)).trans h4⟩
    generalize hset H8 n6 (.iter y cs.length (sn ++ [j]) cs.length) = H9 at *
    have hw9 := k9.wf hw0
    have hfo9 := (hf0.mono hw0 k9).f
    have hm9 := hm0.mono hw0 k9
    (refine qdr ?_; simp only [SS, qx15, y3, simprocAttr, -Int.reduceOfNat, -List.reduceReplicate, f36, ff_34])
    refine AtEntry.by (e := ⟨natE c, tru c, j⟩) hit9 hst9 he (vE_nodup ..) ?_
    simp only [SS, qx15, y3, simprocAttr, -Int.reduceOfNat, -List.reduceReplicate, natE, tru, ff_34]
    have hsx : smN (gr.left, a, c) := by unfold smN; simp only; omega
    have e5 : ndV (gr.left, a, c) = .agg #[.int .i64 gr.left, .int .i64 (a : Nat), .int .i64 (c : Nat)] := rfl
    have q1 : ∀ ob, hset H9 n8 ob fo = H9 fo := fun ob => hset_ne _ _ _ (by have := live_lt hw9 (z := fo) (by rw [hfo9]; intro e; cases e); omega)
    have q3 : ∀ ob, hset H9 n8 ob n3 = H9 n3 := fun ob => hset_ne _ _ _ (by omega)
    have hlk := fun ob => (hm9.mono hw9 (Kp.new n8 H9 ob)).look hsx
    rw [e5] at hlk
    have hsn' : (sn ++ [j]).Nodup := by
      rw [List.nodup_append]
      refine ⟨hsn, by simp, fun a' ha' b' hb' e => ?_⟩
      have : b' = j := by simpa using hb'
      subst this e
      exact hen ha'
    have hsl' : ∀ q, q ∈ sn ++ [j] → q < cs.length := fun q hq => by
      rcases List.mem_append.1 hq with hq | hq
      · exact hsl q hq
      · have : q = j := by simpa using hq
        omega
    have hlt5 : sn.length < cs.length := by
      have := nodup_bnd (k := cs.length - 1) hsn' fun q hq => by have := hsl' q hq; omega
      rw [List.length_append, List.length_singleton] at this
      omega
    have ob1 : AM.splice [Value.int .i64 (Int.ofNat 0), .int .i64 (Int.ofNat 0), .int .i64 (Int.ofNat 0)] 0 [Value.int .i64 gr.left, .int .i64 (a : Nat), .int .i64 (c : Nat)] = ndC (gr.left, a, c) := rfl
    have k10 := Kp.new n8 H9 (.cells (ndC (gr.left, a, c)) 67 true)
    have hx10 := hset_at H9 n8 (.cells (ndC (gr.left, a, c)) 67 true)
    have hit10 : hset H9 n8 (.cells (ndC (gr.left, a, c)) 67 true) n6 = .iter y cs.length (sn ++ [j]) cs.length := (hset_ne _ _ _ (by omega)).trans hit9
    have hyn9 : y < n8 := live_lt hw9 (by rw [hst9]; intro e; cases e)
    have hst10 : ST (hset H9 n8 (.cells (ndC (gr.left, a, c)) 67 true)) y cs := (hset_ne _ _ _ (by omega)).trans hst9
    have hb10 := (hset_ne H9 n8 (.cells (ndC (gr.left, a, c)) 67 true) (x := n3) (by omega)).trans hb9
    have hnl10 : NL (hset H9 n8 (.cells (ndC (gr.left, a, c)) 67 true)) n0 (f 5) fl3 := by
      rcases hnl9 with h | ⟨h1, z, h2, h3, h4⟩
      · exact .inl h
      · exact .inr ⟨h1, z, h2, h3, (k10.keep z (live_lt hw9 (by rw [h4]; intro e; cases e))).trans h4⟩
    have memo : ∀ z, (Fnm g w rd i a z ∨ (rd z = 0 ∧ z.1 = gr.left ∧ z.2.1 = a ∧ ∃ j', j' ∈ sn ++ [j] ∧ cs[j']? = some z.2.2)) ↔ (Fnm g w rd i a z ∨ (rd z = 0 ∧ z.1 = gr.left ∧ z.2.1 = a ∧ ∃ j', j' ∈ sn ∧ cs[j']? = some z.2.2)) ∨ (rd z = 0 ∧ z = (gr.left, a, c)) := fun z => by
      constructor
      · rintro (h | ⟨h1, h2, h3, j', h4, h5⟩)
        · exact .inl (.inl h)
        · rcases List.mem_append.1 h4 with h4 | h4
          · exact .inl (.inr ⟨h1, h2, h3, j', h4, h5⟩)
          · have : j' = j := by simpa using h4
            subst this
            rw [hj] at h5
            exact .inr ⟨h1, Prod.ext h2 (Prod.ext h3 (Option.some.inj h5).symm)⟩
      · rintro ((h | ⟨h1, h2, h3, j', h4, h5⟩) | ⟨h1, rfl⟩)
        · exact .inl h
        · exact .inr ⟨h1, h2, h3, j', List.mem_append_left _ h4, h5⟩
        · exact .inr ⟨h1, rfl, rfl, j, by simp, hj⟩
    by_cases hrz : rd (gr.left, a, c) = 0
    case neg =>
      have hrz' : (((rd (gr.left, a, c) : Nat) : Int) = 0) = False := by simp only [eq_iff_iff, iff_false]; omega
      repeat (first | refine qdm rfl ?_ | ((first | refine qdr ?_ | refine qdt ?_); simp only [SS, qx15, y3, simprocAttr, -Int.reduceOfNat, -List.reduceReplicate, f0, f7, f8, hb9, rl_0, hfo9, q1, fo_4, aop_nc, tnc, aop_look, hlk, tk3, hrz', ff_34]))
      refine ih3 (cs.length - (sn ++ [j]).length) (by rw [List.length_append, List.length_singleton]; omega) _ ?_
      refine ⟨sn ++ [j], fl3, k9.trans k10, by show n6 < n8 + 1; omega, hit10, hst10, hnl10, by rw [List.length_append]; omega, fun z => ?_, hsn', hsl', hb10, f0, f1, f7, f8, f17, f18, f19, f28, f29, f36, rfl⟩
      rw [hmem8 z, memo z]
      constructor
      · intro h; exact .inl h
      · rintro (h | ⟨h1, rfl⟩)
        · exact h
        · exact absurd h1 hrz
    have hrz' : (((rd (gr.left, a, c) : Nat) : Int) = 0) = True := by simp only [eq_iff_iff, iff_true]; omega
    have q5 : ∀ (H' : Heap) ob, hset H' (n8 + 1) ob n8 = H' n8 := fun H' ob => hset_ne _ _ _ (by omega)
    have memn : ∀ z, z ∈ fl3 ++ [(gr.left, a, c)] ↔ Fnm g w rd i a z ∨ (rd z = 0 ∧ z.1 = gr.left ∧ z.2.1 = a ∧ ∃ j', j' ∈ sn ++ [j] ∧ cs[j']? = some z.2.2) := fun z => by
      rw [memo z, List.mem_append, hmem8 z, List.mem_singleton]
      constructor
      · rintro (h | rfl)
        · exact .inl h
        · exact .inr ⟨hrz, rfl⟩
      · rintro (h | ⟨_, h⟩)
        · exact .inl h
        · exact .inr h
    rcases hnl9 with ⟨rfl, h5⟩ | ⟨hne, z, h5, hz0, hz⟩
    · repeat (first | refine qdm rfl ?_ | ((first | refine qdr ?_ | refine qdt ?_); simp only [SS, qx15, y3, simprocAttr, -Int.reduceOfNat, -List.reduceReplicate, f0, f7, f8, h5, hb9, rl_0, hfo9, q1, q5, fo_4, aop_nc, tnc, aop_look, hlk, tk3, hrz', hset_at, ff_34]))
      refine ih3 (cs.length - (sn ++ [j]).length) (by rw [List.length_append, List.length_singleton]; omega) _ ?_
      have kz := (k9.trans (Kp.new n8 H9 (.cells (ndC (gr.left, a, c)) 67 true))).trans ((Kp.new (n8 + 1) _ (.cells (ndC (gr.left, a, c)) 67 true)).trans (Kp.new (n8 + 1 + 1) _ (.cells (ndC (gr.left, a, c)) 67 true)))
      refine ⟨sn ++ [j], [] ++ [(gr.left, a, c)], kz, by show n6 < n8 + 1 + 1 + 1; omega, ?_, ?_, .inr ⟨by simp, n8 + 1 + 1, rfl, by omega, hset_at _ _ _⟩, by simp; omega, memn, hsn', hsl', ?_, f0, f1, f7, f8, f17, f18, f19, f28, f29, f36, rfl⟩
      · exact (hset_ne _ _ _ (by omega)).trans ((hset_ne _ _ _ (by omega)).trans hit10)
      · exact (hset_ne _ _ _ (by omega)).trans ((hset_ne _ _ _ (by omega)).trans hst10)
      · exact (hset_ne _ _ _ (by omega)).trans ((hset_ne _ _ _ (by omega)).trans hb10)
    · have hzn : z < n8 := live_lt hw9 (by rw [hz]; intro e; cases e)
      have hz6 : z ≠ n6 := by intro e; subst e; rw [hit9] at hz; cases hz
      have hzy : z ≠ y := by intro e; subst e; rw [hst9] at hz; cases hz
      have hz3 : z ≠ n3 := by
        intro e; subst e; rw [hb9] at hz
        exact absurd (AObj.cells.inj hz).2.1 (by decide)
      have hct : [n8 + 1].contains z = false := by simp; omega
      have hbg : fl3.length + 1 ≤ bigN := by
        have := sg.rules
        have h2 : sn.length ≤ 11 := by omega
        unfold bigN; omega
      have hln : (fl3.flatMap ndC).length = fl3.length * 3 := ndcs_len fl3
      have htk : (fl3.flatMap ndC).take (fl3.length * 3) = fl3.flatMap ndC := List.take_of_length_le (by omega)
      have r1 : ∀ (H' : Heap) ob, hset H' n8 ob z = H' z := fun H' ob => hset_ne _ _ _ (by omega)
      have r2 : ∀ (H' : Heap) ob, hset H' (n8 + 1) ob z = H' z := fun H' ob => hset_ne _ _ _ (by omega)
      have r3 : ∀ (H' : Heap) ob, hset H' z ob (n8 + 1) = H' (n8 + 1) := fun H' ob => hset_ne _ _ _ (by omega)
      repeat (first | refine qdm rfl ?_ | ((first | refine qdr ?_ | refine qdt ?_); simp only [SS, qx15, y3, simprocAttr, -Int.reduceOfNat, -List.reduceReplicate, f0, f7, f8, h5, hb9, rl_0, hfo9, q1, q5, fo_4, aop_nc, tnc, aop_look, hlk, tk3, hrz', hset_at, hz, r1, r2, r3, hct, hbg, hln, htk, List.drop_zero, tk4, ff_34]))
      refine ih3 (cs.length - (sn ++ [j]).length) (by rw [List.length_append, List.length_singleton]; omega) _ ?_
      have kz := (((k9.trans (Kp.new n8 H9 (.cells (ndC (gr.left, a, c)) 67 true))).trans (Kp.new (n8 + 1) _ (.cells (ndC (gr.left, a, c)) 67 true))).set (x := z) .dead (by omega) (by omega)).trans (Kp.new (n8 + 1 + 1) _ (.cells (fl3.flatMap ndC ++ ndC (gr.left, a, c)) 67 true))
      refine ⟨sn ++ [j], fl3 ++ [(gr.left, a, c)], kz, by show n6 < n8 + 1 + 1 + 1; omega, ?_, ?_, .inr ⟨by simp, n8 + 1 + 1, ?_, by omega, ?_⟩, by rw [List.length_append, List.length_append]; simp; omega, memn, hsn', hsl', ?_, f0, f1, f7, f8, f17, f18, f19, f28, f29, f36, rfl⟩
      · exact (hset_ne _ _ _ (by omega)).trans ((hset_ne _ _ _ (Ne.symm hz6)).trans ((hset_ne _ _ _ (by omega)).trans hit10))
      · exact (hset_ne _ _ _ (by omega)).trans ((hset_ne _ _ _ (Ne.symm hzy)).trans ((hset_ne _ _ _ (by omega)).trans hst10))
      · simp only [packed, fset_apply, Nat.reduceEqDiff, ↓reduceIte, List.getD_cons_zero, List.getD_cons_succ, List.length_append, List.length_singleton, ff_34]
      · refine (hset_at _ _ _).trans ?_
        rw [List.flatMap_append]; rfl
      · exact (hset_ne _ _ _ (by omega)).trans ((hset_ne _ _ _ (Ne.symm hz3)).trans ((hset_ne _ _ _ (by omega)).trans hb10))
end Go.Proofs.Ytemkglelfeidhaa

namespace Go.Proofs.Ytemkglelfeidhaa
open Go.AM Go.RowKit
set_option maxRecDepth 100000
def itC (x : It) : List Value := [.int .i64 (x.1 : Nat), .int .i64 (x.2.1 : Nat), .int .i64 (x.2.2 : Nat)]
def itV (x : It) : Value := .agg (itC x).toArray
theorem itC_len (x : It) : (itC x).length = 3 := rfl
theorem itcs_len (l : List It) : (l.flatMap itC).length = l.length * 3 := by
 induction l with
 | nil => rfl
 | cons x l ih => rw [List.flatMap_cons, List.length_append, ih, itC_len, List.length_cons]; omega
theorem itcs_at {l : List It} {i : Nat} {x : It} (h : l[i]? = some x) : ((l.flatMap itC).drop (i * 3)).take 3 = itC x := by
 induction l generalizing i with
 | nil => simp at h
 | cons y l ih =>
  rw [List.flatMap_cons]
  cases i with
  | zero => simp at h; subst h; rfl
  | succ i =>
   have e : (i + 1) * 3 = (itC y).length + i * 3 := by rw [itC_len]; omega
   rw [e, List.drop_append, List.drop_eq_nil_of_le (by omega), List.nil_append, Nat.add_sub_cancel_left]
   exact ih (by simpa using h)
theorem itC_inj {x y : It} (h : itC x = itC y) : x = y := by
 unfold itC at h
 simp only [List.cons.injEq, Value.int.injEq, true_and, and_true] at h
 obtain ⟨a, b, c⟩ := x
 obtain ⟨a', b', c'⟩ := y
 simp only at h
 simp only [Prod.mk.injEq]
 omega
def ents (l : List It) : List MapEntry := l.zipIdx.map fun p => ⟨itV p.1, .bool true, p.2⟩
def MO (l : List It) : AObj := .map (ents l) l.length 113
theorem ents_snoc (l : List It) (x : It) : ents (l ++ [x]) = ents l ++ [⟨itV x, .bool true, l.length⟩] := by
 unfold ents
 rw [List.zipIdx_append, List.map_append]
 simp
theorem mem_ents {l : List It} {e : MapEntry} (h : e ∈ ents l) : ∃ x ∈ l, e.key = itV x ∧ e.val = .bool true := by
 unfold ents at h
 obtain ⟨p, hp, rfl⟩ := List.mem_map.1 h
 obtain ⟨x, i⟩ := p
 exact ⟨x, (List.mem_zipIdx' hp).2 ▸ List.getElem_mem _, rfl, rfl⟩
theorem ents_mem {l : List It} {x : It} (h : x ∈ l) : ∃ e ∈ ents l, e.key = itV x := by
 obtain ⟨i, hi, rfl⟩ := List.getElem_of_mem h
 refine ⟨_, List.mem_map.2 ⟨(l[i], i), ?_, rfl⟩, rfl⟩
 rw [List.mem_zipIdx_iff_getElem?]
 exact List.getElem?_eq_getElem hi
theorem veq_it (x y : It) : veq (itV x) (itV y) = decide (x = y) := by
 by_cases h : x = y
 ·subst h
  have : veqs (itC x) (itC x) = true := by simp [itC, veqs, veq1]
  simp only [decide_true]
  exact this
 ·simp only [h, decide_false]
  cases hv : veq (itV x) (itV y) with
  | false => rfl
  | true =>
   have := veqs_eq (show veqs (itC x) (itC y) = true from hv)
   exact absurd (itC_inj this) h
theorem wide_it : wideK Try.prog 113 = true := by kernel_rfl
def smI (x : It) : Prop := x.1 ≤ 1000000 ∧ x.2.1 ≤ 1000000 ∧ x.2.2 ≤ 1000000
noncomputable def fsI : Array Field := match Try.prog.underlying 113 with
 | some (.struct fs) => fs
 | _ => #[]
theorem wf_nat {n : Nat} (h : n ≤ 1000000) : (Lit.int .i64 (n : Int)).wf = true := by
 have h1 : IntKind.min .i64 = -9223372036854775808 := rfl
 have h2 : IntKind.max .i64 = 9223372036854775807 := rfl
 unfold Lit.wf
 simp only [h1, h2, Bool.and_eq_true, decide_eq_true_eq]
 omega
theorem key_it {x : It} (h : smI x) : (keyOf Try.prog 113 (itV x)).isSome = true :=
 keyOf_3 (fs := fsI) (ti := 3) (by kernel_rfl) (by kernel_rfl) (by kernel_rfl) (Nat.lt_of_lt_of_le Nat.zero_lt_one (Nat.le_of_ble_eq_true (by kernel_rfl))) (by kernel_rfl) (by kernel_rfl) (by kernel_rfl) (by kernel_rfl) (wf_nat h.1) (wf_nat h.2.1) (wf_nat h.2.2)
theorem und_map : Try.prog.underlying 105 = some (.map 113 4) := by kernel_rfl
theorem zero_bool : ((Try.prog.info? 4).bind (·.zero)) = some (.bool false) := by kernel_rfl
theorem find_it {x : It} (hs : smI x) (l : List It) : afind Try.prog 113 (itV x) (ents l) = some ((ents l).findIdx? fun e => veq e.key (itV x)) := by
 unfold afind
 rw [if_pos ⟨wide_it, rfl, key_it hs⟩]
theorem find_no {x : It} {l : List It} (h : x ∉ l) : ((ents l).findIdx? fun e => veq e.key (itV x)) = none := by
 rw [List.findIdx?_eq_none_iff]
 intro e he
 obtain ⟨y, hy, hk, _⟩ := mem_ents he
 rw [hk, veq_it]
 simp only [decide_eq_false_iff_not]
 rintro rfl
 exact h hy
theorem find_yes {x : It} {l : List It} (h : x ∈ l) : ∃ i e, ((ents l).findIdx? fun e => veq e.key (itV x)) = some i ∧ (ents l)[i]? = some e ∧ e.val = .bool true := by
 cases hf : (ents l).findIdx? fun e => veq e.key (itV x) with
 | none =>
  rw [List.findIdx?_eq_none_iff] at hf
  obtain ⟨e, he, hk⟩ := ents_mem h
  have := hf e he
  rw [hk, veq_it] at this
  simp at this
 | some i =>
  rw [List.findIdx?_eq_some_iff_getElem] at hf
  obtain ⟨hi, _, _⟩ := hf
  obtain ⟨y, _, _, hv⟩ := mem_ents (List.getElem_mem hi)
  exact ⟨i, _, rfl, List.getElem?_eq_getElem hi, hv⟩
theorem look_it {H : Heap} {m : Nat} {l : List It} (h : H m = MO l) {x : It} (hs : smI x) : alookup Try.prog 105 H (.map (some m)) (itV x) false = some { v := .bool (decide (x ∈ l)), rd := [m] } := by
 unfold MO at h
 unfold alookup
 rw [und_map]
 simp only [h, if_pos, find_it hs]
 by_cases hx : x ∈ l
 ·obtain ⟨i, e, h1, h2, h3⟩ := find_yes hx
  simp only [h1, h2, h3, hx, decide_true]
  rfl
 ·simp only [find_no hx, zero_bool, hx, decide_false]
  rfl
theorem set_it {H : Heap} {m : Nat} {l : List It} (h : H m = MO l) {x : It} (hs : smI x) (hx : x ∉ l) : amapset Try.prog 105 H (.map (some m)) (itV x) (.bool true) = some { v := undef, wr := some (m, MO (l ++ [x])) } := by
 unfold MO at h
 unfold amapset
 rw [und_map]
 simp only [h, if_pos, find_it hs, find_no hx]
 unfold MO
 rw [ents_snoc, List.length_append]
 rfl
theorem make_it (n : Nat) : amake Try.prog n 105 = some { v := .map (some n), news := [MO []] } := by
 unfold amake
 rw [und_map]
 rfl
def LR (H : Heap) (v : Value) (l : List It) : Prop := (l = [] ∧ v = .slice none 0 0) ∨ (l ≠ [] ∧ ∃ z own, v = .slice (some ⟨z, 0, none⟩) l.length l.length ∧ H z = .rows (l.flatMap itC) 113 own)
def LV (H : Heap) (N : Nat) (v : Value) (l : List It) : Prop := (l = [] ∧ v = .slice none 0 0) ∨ (l ≠ [] ∧ ∃ z, v = .slice (some ⟨z, 0, none⟩) l.length l.length ∧ N ≤ z ∧ H z = .rows (l.flatMap itC) 113 true)
theorem LV.lr {H : Heap} {N : Nat} {v : Value} {l : List It} (h : LV H N v l) : LR H v l := by
 rcases h with h | ⟨h0, z, h1, _, h2⟩
 ·exact .inl h
 ·exact .inr ⟨h0, z, true, h1, h2⟩
theorem LR.rk {H H' : Heap} {v : Value} {l : List It} (h : LR H v l) (k : RK H H') : LR H' v l := by
 rcases h with h | ⟨h0, z, own, h1, h2⟩
 ·exact .inl h
 ·obtain ⟨own', h3⟩ := k _ _ _ _ h2
  exact .inr ⟨h0, z, own', h1, h3⟩
theorem LR.slice {H : Heap} {v : Value} {l : List It} (h : LR H v l) : ∃ p, v = .slice p l.length l.length := by
 rcases h with ⟨rfl, rfl⟩ | ⟨_, z, _, h1, _⟩
 ·exact ⟨none, rfl⟩
 ·exact ⟨_, h1⟩
theorem LR.at {H : Heap} {p : Option Addr} {l : List It} (h : LR H (.slice p l.length l.length) l) {i : Nat} (hi : i < l.length) : ∃ z own, p = some ⟨z, 0, none⟩ ∧ H z = .rows (l.flatMap itC) 113 own ∧ ((l.flatMap itC).drop (i * 3)).take 3 = itC l[i] ∧ i * 3 + 3 ≤ (l.flatMap itC).length := by
 rcases h with ⟨rfl, _⟩ | ⟨_, z, own, h1, h2⟩
 ·exact absurd hi (Nat.not_lt_zero _)
 ·cases h1
  exact ⟨z, own, rfl, h2, itcs_at (List.getElem?_eq_getElem hi), by rw [itcs_len]; omega⟩
def RC (P : Nat → Prop) (H H' : Heap) : Prop := RK H H' ∧ ∀ z cs ty own, ¬ P z → H z = .cells cs ty own → H' z = .cells cs ty own
theorem RC.refl (P : Nat → Prop) (H : Heap) : RC P H H := ⟨.refl H, fun _ _ _ _ _ h => h⟩
theorem RC.trans {P : Nat → Prop} {H H1 H2 : Heap} (a : RC P H H1) (b : RC P H1 H2) : RC P H H2 := ⟨a.1.trans b.1, fun z cs ty own hp h => b.2 z cs ty own hp (a.2 z cs ty own hp h)⟩
theorem RC.mono {P Q : Nat → Prop} {H H1 : Heap} (a : RC P H H1) (h : ∀ z cs ty own, H z = .cells cs ty own → P z → Q z) : RC Q H H1 := ⟨a.1, fun z cs ty own hp e => a.2 z cs ty own (fun hP => hp (h z cs ty own e hP)) e⟩
theorem RC.setM {P : Nat → Prop} {H : Heap} {x : Nat} {o : AObj} {l : List It} (h : H x = MO l) : RC P H (hset H x o) := ⟨.set fun c t o e => (by rw [h] at e; unfold MO at e; cases e), fun z cs ty own _ e => (hset_ne' _ _ _ (by rintro rfl; rw [h] at e; unfold MO at e; cases e)).trans e⟩
theorem RC.setY {P : Nat → Prop} {H : Heap} {x : Nat} {o : AObj} {cs : List Value} {ty : TypeId} {own : Bool} (h : H x = .cells cs ty own) (hp : P x) : RC P H (hset H x o) := ⟨.set fun c t o e => (by rw [h] at e; cases e), fun z cs ty own hn e => (hset_ne' _ _ _ (by rintro rfl; exact hn hp)).trans e⟩
theorem RC.own {P : Nat → Prop} {H : Heap} {x : Nat} {cs : List Value} {ty : TypeId} {own own' : Bool} (h : H x = .rows cs ty own) : RC P H (hset H x (.rows cs ty own')) := ⟨.own h, fun z cs ty own _ e => (hset_ne' _ _ _ (by rintro rfl; rw [h] at e; cases e)).trans e⟩
theorem rc_kp {P : Nat → Prop} {n n' : Nat} {H H' : Heap} (k : Kp n H n' H') (hw : WF n H) : RC P H H' := ⟨k.rk hw, fun z cs ty own _ h => (k.keep z (Classical.byContradiction fun hc => by rw [hw z (by omega)] at h; cases h)).trans h⟩
def SC (H : Heap) (N : Nat) (cs : List Value) (k : Nat) (l : List It) : Prop := ∃ v m, cs[k]? = some v ∧ cs[k + 1]? = some (.map (some m)) ∧ N ≤ m ∧ H m = MO l ∧ LV H N v l
end Go.Proofs.Ytemkglelfeidhaa
