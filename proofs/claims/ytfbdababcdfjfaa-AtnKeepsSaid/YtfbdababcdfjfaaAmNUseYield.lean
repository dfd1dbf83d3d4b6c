/- A part of a proof. Its conditions: none. -/
import Derived.Test.YtfbdababcdfjfaaAmNLfLay
import Derived.Test.YtfbdababcdfjfaaAmD
import Derived.Test.YtfbdababcdfjfaaAmC
set_option linter.all false
namespace Go.Proofs.Ytfbdababcdfjfaa
open Go.AM
set_option maxRecDepth 100000
theorem rc_len (pt pv pr : Option Addr) (g : Gram) (a b : Value) : (rcells pt pv pr g a b).length = 5 := rfl
theorem rc_2 (pt pv pr : Option Addr) (g : Gram) (a b : Value) : (rcells pt pv pr g a b)[2]? = some (.slice pr g.rules.length g.rules.length) := rfl
theorem rc_3 (pt pv pr : Option Addr) (g : Gram) (a b : Value) : (rcells pt pv pr g a b)[3]? = some a := rfl
theorem rc_4 (pt pv pr : Option Addr) (g : Gram) (a b : Value) : (rcells pt pv pr g a b)[4]? = some b := rfl
theorem rc_s4 (pt pv pr : Option Addr) (g : Gram) (a b v : Value) : (rcells pt pv pr g a b).set 4 v = rcells pt pv pr g a v := rfl
set_option maxHeartbeats 8000000 in
theorem begin_gives {pt pv pr p : Option Addr} {g : Gram} {form : List Int} {n : Nat} {H : Heap} (hw : WF n H) (hp : RA (Value.int .i64) H p form) (hl : form.length ≤ 2147483648) :
  Gives Try.prog 55 [.agg (gcells pt pv pr g).toArray, .slice p form.length form.length] n H fun v _ H' => ∃ r, n ≤ r ∧ v = .pointer (some ⟨r, 0, none⟩) ∧ Runs n H' r pt pv pr g (layS [] form).1 (layS [] form).2.reverse := by
 refine Gives.of orders ok55 (Nat.le_of_ble_eq_true rfl) ?_
 have hk := Kp.new n H (.cells (gcells pt pv pr g) 25 true)
 have hb := hset_at H n (.cells (gcells pt pv pr g) 25 true)
 repeat refine qqn rfl ?_
 (refine qqr ?_; simp only [SS, qx50, simprocAttr, box_cells, box_one, ff_55])
 generalize hset H n (.cells (gcells pt pv pr g) 25 true) = H1 at *
 repeat refine qqn rfl ?_
 have e1 : vcells (.agg (gcells pt pv pr g).toArray) = gcells pt pv pr g := rfl
 have e2 : (gcells pt pv pr g).all one = true := rfl
 have e3 : Go.AM.splice [Value.slice none 0 0, .slice none 0 0, .slice none 0 0, .slice none 0 0, .slice none 0 0] 0 (gcells pt pv pr g) = rcells pt pv pr g (.slice none 0 0) (.slice none 0 0) := rfl
 have e4 : vcells (.agg (rcells pt pv pr g (.slice none 0 0) (.slice none 0 0)).toArray) = rcells pt pv pr g (.slice none 0 0) (.slice none 0 0) := rfl
 have e5 : (rcells pt pv pr g (.slice none 0 0) (.slice none 0 0)).all one = true := rfl
 (refine qqr ?_; simp only [SS, qx50, simprocAttr, hb, gc_len, gc_all, ebd_128, e1, e2, e3, e4, e5, ff_55])
 have k1 := Kp.new (n + 1) H1 (.cells (rcells pt pv pr g (.slice none 0 0) (.slice none 0 0)) 128 true)
 have b1 := hset_at H1 (n + 1) (.cells (rcells pt pv pr g (.slice none 0 0) (.slice none 0 0)) 128 true)
 generalize hset H1 (n + 1) (.cells (rcells pt pv pr g (.slice none 0 0) (.slice none 0 0)) 128 true) = H2 at *
 repeat refine qqn rfl ?_
 (refine qqr ?_; simp only [SS, qx50, simprocAttr, ff_55])
 have hr : Runs n H2 (n + 1) pt pv pr g [] [] := ⟨_, _, b1, .inl ⟨rfl, rfl⟩, .inl ⟨rfl, rfl⟩, fun y z m k e => by simp at e⟩
 have h := lay_gives (n0 := n) (H0 := H) hw (hk.trans k1) (by omega) hr hp (fun s hs => by cases hs) (by simpa using hl)
 refine AtCall.byX h ?_
 rintro v n3 H3 kx hr3
 rw [List.reverse_nil, List.append_nil] at hr3
 simp only [SS, qx50, simprocAttr, ff_55]
 repeat (first | refine qqm rfl ?_ | ((first | refine qqr ?_ | refine qqt ?_); simp only [SS, qx50, simprocAttr, ff_55]))
 first | refine qqf ?_ ?_ | refine qqg ?_ ?_
 ·exact fun y hy => (kx.keep y (by omega) (by omega)).trans ((hk.trans k1).keep y hy)
 ·simp only [packed, qv, Nat.reduceEqDiff, ↓reduceIte, ff_55]
  exact ⟨n + 1, by omega, rfl, hr3⟩
set_option maxHeartbeats 8000000 in
theorem stepr_gives {n0 r : Nat} {pt pv pr : Option Addr} {g : Gram} {done pend : List Int} {q : Int} {H0 H : Heap} {n : Nat} (hw0 : WF n0 H0) (k0 : Kp n0 H0 n H) (hr0 : n0 ≤ r) (hr : Runs n0 H r pt pv pr g done pend.reverse) (hl : Laid done pend)
  (hrr : RR H0 pr g.rules) (ok : RightOK g) (hsz : done.length + pend.length + 24 ≤ 2147483648) :
  GivesX Try.prog (fun z => n0 ≤ z) 56 [.pointer (some ⟨r, 0, none⟩), .int .i64 q] n H fun v _ H' => v = .int .i64 ((stepS g (done ++ pend) q).2 : Nat) ∧ ((stepS g (done ++ pend) q).2 = 0 → ∃ d' p', Runs n0 H' r pt pv pr g d' p'.reverse ∧ Laid d' p' ∧ d' ++ p' = (stepS g (done ++ pend) q).1) := by
 obtain ⟨F, hF⟩ : ∃ F, done ++ pend = F := ⟨_, rfl⟩
 rw [hF]
 obtain ⟨vd, vl, hro, hvd, hvl, hap⟩ := hr
 refine GivesX.of orders ok56 (Nat.le_of_ble_eq_true rfl) ?_
 have hrl := ok.rules
 have hw := k0.wf hw0
 have err : ∀ e : Nat, e ≠ 0 → stepS g F q = ([], e) → ∀ f : Fr, f 4 = .int .i64 e → FinX Try.prog (fun z => n0 ≤ z) Try.f56.results.toList n H (fun v _ H' => v = .int .i64 ((stepS g F q).2 : Nat) ∧ ((stepS g F q).2 = 0 → ∃ d' p', Runs n0 H' r pt pv pr g d' p'.reverse ∧ Laid d' p' ∧ d' ++ p' = (stepS g F q).1)) .ret ⟨f, n, H⟩ :=
  fun e he h f hf => ⟨Or.inr rfl, [f 4], rfl, fun _ _ _ => rfl, by rw [h]; exact hf, fun h0 => by rw [h] at h0; exact absurd h0 he⟩
 by_cases hq0 : q < 0
 ·repeat (first | refine qqm rfl ?_ | ((first | refine qqr ?_ | refine qqt ?_); simp only [SS, qx40, simprocAttr, hq0, ff_56]))
  exact WK.retNil (err 12 (by omega) (by unfold stepS; rw [if_pos (.inl hq0)]) _ rfl)
 by_cases hq1 : (g.rules.length : Int) ≤ q
 ·repeat (first | refine qqm rfl ?_ | ((first | refine qqr ?_ | refine qqt ?_); simp only [SS, qx40, simprocAttr, hq0, hq1, aop_nc, tnc, hro, rc_2, ff_56]))
  exact WK.retNil (err 12 (by omega) (by unfold stepS; rw [if_pos (.inr hq1)]) _ rfl)
 obtain ⟨i, rfl⟩ : ∃ i : Nat, q = i := ⟨q.toNat, by omega⟩
 have hi : i < g.rules.length := by omega
 have hi' : ¬ g.rules.length ≤ i := by omega
 have hneg : ((i : Int) < 0) = False := by simp
 obtain ⟨htw, hdw⟩ := hl.takeWhile
 rw [hF] at htw hdw
 cases pend with
 | nil =>
  have e13 : stepS g F (i : Nat) = ([], 13) := by unfold stepS; rw [if_neg (by omega), hdw]
  have h00 : (((0 : Nat) : Int) = 0) = True := by simp
  rcases hvl with ⟨rfl, _⟩ | ⟨y, cs, rfl, _⟩
  ·repeat (first | refine qqm rfl ?_ | ((first | refine qqr ?_ | refine qqt ?_); simp only [SS, qx40, simprocAttr, hneg, hi', aop_nc, tnc, hro, rc_2, rc_4, h00, ff_56]))
   exact WK.retNil (err 13 (by omega) e13 _ rfl)
  ·simp only [List.reverse_nil, List.length_nil] at hro
   repeat (first | refine qqm rfl ?_ | ((first | refine qqr ?_ | refine qqt ?_); simp only [SS, qx40, simprocAttr, hneg, hi', aop_nc, tnc, hro, rc_2, rc_4, h00, ff_56]))
   exact WK.retNil (err 13 (by omega) e13 _ rfl)
 | cons u rest =>
  have hst : stepS g F (i : Nat) = if g.rules[i].left = u then (done ++ g.rules[i].right ++ rest, 0) else ([], 14) := by
   unfold stepS
   rw [if_neg (by omega), hdw, htw]
   simp only [Int.toNat_natCast, List.getElem?_eq_getElem hi]
  obtain ⟨L, hL⟩ : ∃ L, rest.reverse.length = L := ⟨_, rfl⟩
  have hLr : rest.length = L := by rw [← hL]; simp
  rw [List.reverse_cons] at hvl
  rcases hvl with ⟨_, h⟩ | ⟨y, cs, rfl, hy, htk, hny, hyr⟩
  ·simp at h
  have hlen : (rest.reverse ++ [u]).length = L + 1 := by rw [List.length_append, hL]; rfl
  rw [hlen] at htk hap hro
  have hyl := live_lt hw (live_of hy)
  have hrl' := live_lt hw (live_of hro)
  have hcs : cs[L]? = some (.int .i64 u) := by
   have h1 : (cs.take (L + 1))[L]? = some (.int .i64 u) := by
    rw [htk, List.map_append, List.getElem?_append_right (by rw [List.length_map, hL]; exact Nat.le_refl _), List.length_map, hL]
    simp
   rw [List.getElem?_take] at h1
   simpa using h1
  have hn0 : (((L + 1 : Nat) : Int) = 0) = False := by simp; omega
  have hw0' : IntKind.i64.wrap (((L + 1 : Nat) : Int) - 1) = ((L : Nat) : Int) := by
   simp only [List.length_cons] at hsz
   rw [wrap_in (by omega) (by omega)]; omega
  have hrr1 := hrr.mono hw0 k0
  obtain ⟨z, kz, zs, tz, oz, p, e0, hz, d0, d1, d2, hp⟩ := hrr1.at hi
  obtain ⟨z', kz', zs', tz', oz', p', e0', hz', d0', d1', d2', hp'⟩ := hrr.at hi
  have hzz := (k0.keep z' (live_lt hw0 (live_of hz'))).trans hz'
  rw [e0] at e0'
  simp only [Option.some.injEq, Addr.mk.injEq] at e0'
  obtain ⟨rfl, rfl, _⟩ := e0'
  rw [hz] at hzz
  cases hzz
  rw [d1] at d1'
  simp only [Option.some.injEq, Value.slice.injEq] at d1'
  obtain ⟨rfl, _⟩ := d1'
  subst e0
  by_cases hlu : u = g.rules[i].left
  ·rw [if_pos hlu.symm] at hst
   have hzr : z ≠ r := by have := live_lt hw0 (live_of hz'); omega
   have hr2 : ∀ o, hset H r o r = o := fun o => hset_at _ _ _
   have hz2 : ∀ o, hset H r o z = _ := fun o => (hset_ne _ _ _ hzr).trans hz
   repeat (first | refine qqm rfl ?_ | ((first | refine qqr ?_ | refine qqt ?_); simp only [SS, qx40, simprocAttr, hneg, hi, hi', aop_nc, tnc, hro, rc_2, rc_4, rc_s4, rc_len, hn0, hw0', hy, hcs, hz, d0, d1, hlu, hz2, Nat.lt_succ_self, Nat.le_succ, isz_3, ff_56]))
   have hr3 : Runs n0 (hset H r (.cells (rcells pt pv (some ⟨z, kz, none⟩) g vd (.slice (some ⟨y, 0, none⟩) L L)) 128 true)) r pt pv (some ⟨z, kz, none⟩) g done rest.reverse := by
    refine ⟨vd, _, hset_at _ _ _, hvd.keep fun w m e hl hwr => hset_ne _ _ _ hwr, .inr ⟨y, cs, by rw [hL], (hset_ne _ _ _ hyr).trans hy, ?_, hny, hyr⟩, ?_⟩
    ·have h1 := congrArg (List.take L) htk
     rw [List.take_take, Nat.min_eq_left (Nat.le_succ _), List.map_append, List.take_left' (by rw [List.length_map, hL])] at h1
     rw [hL]; exact h1
    ·intro a b m k e1 e2
     simp only [Value.slice.injEq, Option.some.injEq, Addr.mk.injEq] at e2
     rw [← e2.1.1]
     exact hap a y m (L + 1) e1 rfl
   have hrlen := (ok.rule i hi).len
   have h := lay_gives (n0 := n0) (H0 := H0) (n := n) hw0 (k0.set _ hr0 hrl') hr0 hr3 hp' hl.done (by simp only [List.length_cons] at hsz; rw [hL]; omega)
   refine AtCall.byX h ?_
   rintro v n3 H3 kx hr4
   rw [List.reverse_reverse] at hr4
   simp only [SS, qx40, simprocAttr, ff_56]
   repeat (first | refine qqm rfl ?_ | ((first | refine qqr ?_ | refine qqt ?_); simp only [SS, qx40, simprocAttr, ff_56]))
   refine WK.retNil ⟨Or.inr rfl, _, rfl, fun x hx hX => ?_, ?_⟩
   ·exact (kx.keep x hx hX).trans (hset_ne _ _ _ (by omega))
   ·simp only [packed, qv, Nat.reduceEqDiff, ↓reduceIte, ff_56]
    rw [hst]
    refine ⟨rfl, fun _ => ⟨_, _, hr4, layS_laid hl.done, ?_⟩⟩
    rw [layS_form, List.append_assoc]
  ·rw [if_neg (fun e => hlu e.symm)] at hst
   repeat (first | refine qqm rfl ?_ | ((first | refine qqr ?_ | refine qqt ?_); simp only [SS, qx40, simprocAttr, hneg, hi, hi', aop_nc, tnc, hro, rc_2, rc_4, hn0, hw0', hy, hcs, hz, d0, hlu, Nat.lt_succ_self, Nat.le_succ, ff_56]))
   exact WK.retNil (err 14 (by omega) hst _ rfl)
end Go.Proofs.Ytfbdababcdfjfaa

namespace Go.Proofs.Ytfbdababcdfjfaa
open Go.AM
set_option maxRecDepth 100000
theorem il_rs {n0 : Nat} {H : Heap} {r : Nat} {v : Value} {l : List Int} (h : IL n0 H r v l) : ∃ p, v = .slice p l.length l.length ∧ RS (Value.int .i64) H p l := by
  rcases h with ⟨rfl, rfl⟩ | ⟨y, cs, rfl, hy, ht, _⟩
  · exact ⟨none, rfl, .inl ⟨rfl, rfl⟩⟩
  · have hl : l.length ≤ cs.length := by
      have := congrArg List.length ht
      rw [List.length_take, List.length_map] at this; omega
    refine ⟨_, rfl, .inr ⟨y, 0, cs, 3, true, rfl, hy, by omega, fun i s e => ?_⟩⟩
    have h1 : (cs.take l.length)[i]? = (l.map (Value.int .i64))[i]? := by rw [ht]
    have hi := (List.getElem?_eq_some_iff.1 e).1
    rw [List.getElem?_take, if_pos hi, List.getElem?_map, e] at h1
    rw [Nat.zero_add]; exact h1
set_option maxHeartbeats 8000000 in
theorem form_gives {n0 r : Nat} {pt pv pr : Option Addr} {g : Gram} {done left : List Int} {H : Heap} {n : Nat} (hw : WF n H) (hr : Runs n0 H r pt pv pr g done left) (hsz : done.length + left.length ≤ 2147483648) :
    Gives Try.prog 57 [.pointer (some ⟨r, 0, none⟩)] n H fun v _ H' => ∃ p, v = .slice p (done ++ left.reverse).length (done ++ left.reverse).length ∧ RS (Value.int .i64) H' p (done ++ left.reverse) := by
  obtain ⟨F, hF⟩ : ∃ F, done ++ left.reverse = F := ⟨_, rfl⟩
  rw [hF]
  obtain ⟨vd, vl, hro, hvd, hvl, hap⟩ := hr
  refine Gives.of orders ok57 (Nat.le_of_ble_eq_true rfl) ?_
  have hrl := live_lt hw (live_of hro)
  obtain ⟨ll, hll⟩ : ∃ ll : Nat, left.length = ll := ⟨_, rfl⟩
  obtain ⟨a, ha, _⟩ := il_rs hvl
  rw [hll] at ha
  have hlw : IntKind.i64.wrap ((ll : Int) - 1) = (ll : Int) - 1 := wrap_in (by omega) (by omega)
  have start : ∀ (n1 : Nat) (H1 : Heap) (f : Fr), Kp n H n1 H1 → IL n H1 r (f 3) done → f 0 = .pointer (some ⟨r, 0, none⟩) → f 4 = .int .i64 ((ll : Int) - 1) → ∃ j out, Kp n H n1 H1 ∧ f 0 = .pointer (some ⟨r, 0, none⟩) ∧ IL n H1 r (f 3) out ∧ out = done ++ left.reverse.take j ∧ f 4 = .int .i64 ((ll : Int) - 1 - (j : Nat)) ∧ j ≤ ll ∧ ll = ll - j :=
    fun n1 H1 f a b c d => ⟨0, done, a, c, b, by simp, by rw [d]; simp, Nat.zero_le _, rfl⟩
  subst ha
  refine WK.seq ?_
  repeat refine qqn rfl ?_
  (refine qqr ?_; simp only [SS, qx41, simprocAttr, ff_57])
  repeat refine qqn rfl ?_
  refine WK.cut (fun s => Kp n H s.n s.H ∧ IL n s.H r (s.f 3) done ∧ s.f 0 = .pointer (some ⟨r, 0, none⟩)) ?_ ?_
  · rcases hvd with ⟨rfl, hde⟩ | ⟨w, ds, rfl, hw', hwt, hnw, hwr⟩
    · repeat (first | refine qqm rfl ?_ | ((first | refine qqr ?_ | refine qqt ?_); simp only [SS, qx41, simprocAttr, aop_nc, tnc, hro, rc_3, ff_57]))
      exact WK.skipNil ⟨rfl, Kp.refl _ _, .inl ⟨rfl, hde⟩, rfl⟩
    · have hdc : done.length ≤ ds.length := by
        have := congrArg List.length hwt
        rw [List.length_take, List.length_map] at this; omega
      have hbg : ¬ bigN < done.length := by unfold bigN; omega
      by_cases hd0 : done.length = 0
      · rw [hd0] at hro
        repeat (first | refine qqm rfl ?_ | ((first | refine qqr ?_ | refine qqt ?_); simp only [SS, qx41, simprocAttr, aop_nc, tnc, hro, rc_3, hw', List.drop_zero, ff_57]))
        exact WK.skipNil ⟨rfl, Kp.refl _ _, .inl ⟨rfl, by simpa using hd0⟩, rfl⟩
      · repeat (first | refine qqm rfl ?_ | ((first | refine qqr ?_ | refine qqt ?_); simp only [SS, qx41, simprocAttr, aop_nc, tnc, hro, rc_3, hw', hdc, hwt, hbg, hd0, List.drop_zero, ff_57]))
        refine WK.skipNil ⟨rfl, Kp.new n H _, .inr ⟨n, _, rfl, hset_at _ _ _, List.take_of_length_le (by simp), Nat.le_refl _, by omega⟩, rfl⟩
  rintro ⟨f, n1, H1⟩ ⟨kp, hil, f0⟩
  simp only at kp hil f0
  have hro1 := (kp.keep r hrl).trans hro
  repeat (first | refine qqm rfl ?_ | ((first | refine qqr ?_ | refine qqt ?_); simp only [SS, qx41, simprocAttr, f0, aop_nc, tnc, hro1, rc_4, hlw, ff_57]))
  refine WK.loop (fun k s => ∃ (j : Nat) (out : List Int), Kp n H s.n s.H ∧ s.f 0 = .pointer (some ⟨r, 0, none⟩) ∧ IL n s.H r (s.f 3) out ∧ out = done ++ left.reverse.take j ∧ s.f 4 = .int .i64 ((ll : Int) - 1 - (j : Nat)) ∧ j ≤ ll ∧ k = ll - j) ll ?_ ?_
  · exact start _ _ _ kp hil f0 rfl
  clear start hil f0 kp hro1
  rintro kk ⟨f, n2, H2⟩ ⟨j, out, kp, f0, hil, hout, f4, hj, rfl⟩ ih
  simp only at kp f0 hil f4 ih
  have hw2 := kp.wf hw
  have hro2 := (kp.keep r hrl).trans hro
  have hol : out.length = done.length + j := by rw [hout]; simp; omega
  by_cases hjl : j < ll
  · obtain ⟨i, hi⟩ : ∃ i : Nat, (ll : Int) - 1 - j = i := ⟨ll - 1 - j, by omega⟩
    have hil' : i < left.length := by omega
    have hill : i < ll := by omega
    have hi0 : (0 ≤ (i : Int)) = True := by simp
    have hiw : IntKind.i64.wrap ((i : Int) - 1) = (ll : Int) - 1 - ((j + 1 : Nat) : Int) := by rw [wrap_in (by omega) (by omega)]; omega
    rw [hi] at f4
    rcases hvl with ⟨_, h⟩ | ⟨y, cs, hya, hy, htk, hny, hyr⟩
    · rw [h] at hll; simp at hll; omega
    simp only [Value.slice.injEq] at hya
    obtain ⟨rfl, _⟩ := hya
    have hy2 := (kp.keep y (live_lt hw (live_of hy))).trans hy
    have hcs : cs[i]? = some (.int .i64 left[i]) := by
      have h1 : (cs.take left.length)[i]? = some (.int .i64 left[i]) := by rw [htk, List.getElem?_map, List.getElem?_eq_getElem hil']; rfl
      rw [List.getElem?_take, if_pos hil'] at h1
      exact h1
    have hrev : left.reverse.take (j + 1) = left.reverse.take j ++ [left[i]] := by
      rw [List.take_succ_eq_append_getElem (by rw [List.length_reverse]; omega), List.getElem_reverse]
      congr 3
      omega
    have hbg : out.length + 1 ≤ bigN := by unfold bigN; omega
    obtain ⟨v3, hv3⟩ : ∃ v3, f 3 = v3 := ⟨_, rfl⟩
    rw [hv3] at hil
    rcases hil with ⟨rfl, hoe⟩ | ⟨w, ds, rfl, hw', hwt, hnw, hwr⟩
    · repeat (first | refine qqm rfl ?_ | ((first | refine qqr ?_ | refine qqt ?_); simp only [SS, qx41, simprocAttr, f0, f4, hv3, hi0, aop_nc, tnc, hro2, rc_4, hy2, hcs, hill, ebs_26_1, ff_57]))
      refine ih (ll - (j + 1)) (by omega) _ ⟨j + 1, out ++ [left[i]], (kp.trans (Kp.new n2 H2 _)).trans (Kp.new (n2 + 1) _ _), f0, ?_, by rw [hout, hrev, List.append_assoc], ?_, hjl, rfl⟩
      · rw [hoe]
        exact IL.grown (l := []) (hset_at _ _ _) (by have := kp.le; omega) (by have := kp.le; omega)
      · simp only [packed, qv, Nat.reduceEqDiff, ↓reduceIte, f4, hiw, ff_57]
    · have hwl := live_lt hw2 (live_of hw')
      have hdc : out.length ≤ ds.length := by
        have := congrArg List.length hwt
        rw [List.length_take, List.length_map] at this; omega
      have c1 : ∀ o, hset H2 n2 o w = _ := fun o => (hset_ne _ _ _ (by omega)).trans hw'
      have c2 : [n2].contains w = false := by simp; omega
      repeat (first | refine qqm rfl ?_ | ((first | refine qqr ?_ | refine qqt ?_); simp only [SS, qx41, simprocAttr, f0, f4, hv3, hi0, aop_nc, tnc, hro2, rc_4, hy2, hcs, hill, ebs_26_1, c1, c2, hdc, hwt, hbg, List.drop_zero, ff_57]))
      refine ih (ll - (j + 1)) (by omega) _ ⟨j + 1, out ++ [left[i]], ((kp.trans (Kp.new n2 H2 _)).set _ hnw (by omega)).trans (Kp.new (n2 + 1) _ _), f0, ?_, by rw [hout, hrev, List.append_assoc], ?_, hjl, rfl⟩
      · exact IL.grown (hset_at _ _ _) (by have := kp.le; omega) (by have := kp.le; omega)
      · simp only [packed, qv, Nat.reduceEqDiff, ↓reduceIte, f4, hiw, ff_57]
  · have hje : j = ll := by omega
    subst hje
    have hlt : ((j : Int) - 1 - j) = -1 := by omega
    rw [hlt] at f4
    have hm1 : ((0 : Int) ≤ -1) = False := by simp
    rw [List.take_of_length_le (by rw [List.length_reverse]; omega), hF] at hout
    subst hout
    obtain ⟨p, hp, hrs⟩ := il_rs hil
    repeat (first | refine qqm rfl ?_ | ((first | refine qqr ?_ | refine qqt ?_); simp only [SS, qx41, simprocAttr, f4, hp, hm1, ff_57]))
    first | refine qqf ?_ ?_ | refine qqg ?_ ?_
    · exact kp.keep
    · simp only [packed, qv, Nat.reduceEqDiff, ↓reduceIte, hp, ff_57]
      exact ⟨p, rfl, hrs⟩
end Go.Proofs.Ytfbdababcdfjfaa

namespace Go.Proofs.Ytfbdababcdfjfaa
open Go.AM
set_option maxRecDepth 100000
theorem stepS_err {g : Gram} {form : List Int} {r : Int} (h : (stepS g form r).2 ≠ 0) : (stepS g form r).1 = [] := by
 revert h
 unfold stepS
 split
 ·simp
 ·split
  ·simp
  ·split
   ·split <;> simp
   ·simp
theorem stepS_len {g : Gram} (ok : RightOK g) (form : List Int) (r : Int) : (stepS g form r).1.length ≤ form.length + 24 := by
 by_cases h : (stepS g form r).2 = 0
 ·obtain ⟨i, hi, t, rest, _, e1, e2, _⟩ := stepS_ok (g := g) (form := form) (r := r) (form' := (stepS g form r).1) (by rw [← h])
  have := (ok.rule i hi).len
  rw [e2]
  conv => rhs; rw [e1]
  simp only [List.length_append, List.length_cons]
  omega
 ·have := stepS_err h
  rw [this]; simp
set_option maxHeartbeats 8000000 in
theorem replay_gives {v : Value} {g : Gram} {p q : Option Addr} {form rules : List Int} {n : Nat} {H : Heap} (hw : WF n H) (hg : RG H v g) (wg : WG g) (ok : RightOK g) (hp : RA (Value.int .i64) H p form) (hq : RA (Value.int .i64) H q rules) (hl : form.length + 24 * rules.length + 24 ≤ 2147483648) :
  Gives Try.prog 29 [v, .slice p form.length form.length, .slice q rules.length rules.length] n H fun v _ H' => ∃ p', v = .tuple #[.slice p' (replayL g form rules).1.length (replayL g form rules).1.length, .int .i64 ((replayL g form rules).2.1 : Nat), .int .i64 ((replayL g form rules).2.2 : Nat)] ∧ RS (Value.int .i64) H' p' (replayL g form rules).1 := by
 have hg0 := hg
 obtain ⟨pt, pv, pr, rfl, ht, hv, hr⟩ := hg
 refine Gives.of orders ok29 (Nat.le_of_ble_eq_true rfl) ?_
 have hk := Kp.new n H (.cells (gcells pt pv pr g) 25 true)
 have hb := hset_at H n (.cells (gcells pt pv pr g) 25 true)
 repeat refine qqn rfl ?_
 (refine qqr ?_; simp only [SS, qx26, simprocAttr, box_cells, box_one, ff_29])
 have hw1 := hk.wf hw
 replace hp := hp.mono hw hk
 replace hq := hq.mono hw hk
 replace hr := hr.mono hw hk
 generalize hset H n (.cells (gcells pt pv pr g) 25 true) = H1 at *
 by_cases h4 : (4096 : Int) < rules.length
 ·repeat (first | refine qqm rfl ?_ | ((first | refine qqr ?_ | refine qqt ?_); simp only [SS, qx26, simprocAttr, h4, ff_29]))
  first | refine qqf ?_ ?_ | refine qqg ?_ ?_
  ·exact hk.keep
  ·simp only [packed, qv, Nat.reduceEqDiff, ↓reduceIte, ff_29]
   have e : replayL g form rules = ([], 0, 7) := by unfold replayL; rw [if_pos (by omega)]
   rw [e]
   exact ⟨none, rfl, .inl ⟨rfl, rfl⟩⟩
 have eL : replayL g form rules = replayS g form rules 0 := by unfold replayL; rw [if_neg (by omega)]
 rw [eL]
 repeat (first | refine qqm rfl ?_ | ((first | refine qqr ?_ | refine qqt ?_); simp only [SS, qx26, simprocAttr, h4, hb, gc_len, gc_all, ff_29]))
 refine AtCall.by (begin_gives (g := g) hw1 hp (by omega)) ?_
 rintro v n2 H2 k2 ⟨r, hr0, rfl, hrun⟩
 simp only [SS, qx26, simprocAttr, ff_29]
 repeat (first | refine qqm rfl ?_ | ((first | refine qqr ?_ | refine qqt ?_); simp only [SS, qx26, simprocAttr, ff_29]))
 have hform := layS_form [] form
 rw [List.nil_append] at hform
 have hlaid := layS_laid (done := []) (pend := form) (fun s hs => by cases hs)
 refine WK.loop (fun k s => ∃ (j : Nat) (d p' : List Int), Kp (n + 1) H1 s.n s.H ∧ Runs (n + 1) s.H r pt pv pr g d p'.reverse ∧ Laid d p' ∧ (d ++ p').length ≤ form.length + 24 * j ∧ replayS g form rules 0 = replayS g (d ++ p') (rules.drop j) j ∧ s.f 9 = .pointer (some ⟨r, 0, none⟩) ∧ s.f 19 = .slice q rules.length rules.length ∧ s.f 20 = .int .i64 rules.length ∧ s.f 21 = .int .i64 (j : Nat) ∧ j ≤ rules.length ∧ k = rules.length - j) rules.length ?_ ?_
 ·exact ⟨0, _, _, k2, hrun, hlaid, by rw [hform]; omega, by rw [hform]; rfl, rfl, rfl, rfl, rfl, Nat.zero_le _, rfl⟩
 rintro kk ⟨f, n4, H4⟩ ⟨j, d, p', kp, hrun, hlaid, hlen, hrep, f9, f19, f20, f21, hj, rfl⟩ ih
 simp only at f9 f19 f20 f21 ih kp hrun
 have hw4 := kp.wf hw1
 by_cases hjl : j < rules.length
 ·have hjw : IntKind.i64.wrap ((j : Int) + 1) = ((j + 1 : Nat) : Int) := by rw [wrap_in (by omega) (by omega)]; rfl
  have hq4 := hq.mono hw1 kp
  obtain ⟨x, kx, ds, tx, ox, rfl, hx, ex⟩ := hq4.at hjl
  rw [List.length_append] at hlen
  repeat (first | refine qqm rfl ?_ | ((first | refine qqr ?_ | refine qqt ?_); simp only [SS, qx26, simprocAttr, f9, f19, f20, f21, hjl, hx, ex, ff_29]))
  refine AtCall.byX (stepr_gives (q := rules[j]) hw1 kp hr0 hrun hlaid hr ok (by omega)) ?_
  rintro v n5 H5 kx5 ⟨rfl, hres⟩
  have hdrop : rules.drop j = rules[j] :: rules.drop (j + 1) := List.drop_eq_getElem_cons hjl
  rw [hdrop] at hrep
  simp only [replayS] at hrep
  have hsl := stepS_len ok (d ++ p') rules[j]
  rw [List.length_append] at hsl
  have kp5 : Kp (n + 1) H1 n5 H5 := ⟨by have := kp.le; have := kx5.le; omega, fun y hy => (kx5.keep y (by have := kp.le; omega) (by omega)).trans (kp.keep y hy), fun h => kx5.wf (kp.wf h)⟩
  by_cases he : (stepS g (d ++ p') rules[j]).2 = 0
  ·rw [if_pos he] at hrep
   obtain ⟨d2, p2, hrun2, hlaid2, hfe⟩ := hres he
   rw [he]
   have h00 : (((0 : Nat) : Int) = 0) = True := by simp
   simp only [SS, qx26, simprocAttr, ff_29]
   repeat (first | refine qqm rfl ?_ | ((first | refine qqr ?_ | refine qqt ?_); simp only [SS, qx26, simprocAttr, f21, h00, ff_29]))
   refine ih (rules.length - (j + 1)) (by omega) _ ⟨j + 1, d2, p2, kp5, hrun2, hlaid2, by rw [hfe]; omega, by rw [hfe]; exact hrep, f9, f19, f20, ?_, hjl, rfl⟩
   simp only [packed, qv, Nat.reduceEqDiff, ↓reduceIte, f21, hjw, ff_29]
  ·rw [if_neg he] at hrep
   have he' : (((stepS g (d ++ p') rules[j]).2 : Nat) : Int) = 0 ↔ False := by simp; exact he
   simp only [SS, qx26, simprocAttr, ff_29]
   repeat (first | refine qqm rfl ?_ | ((first | refine qqr ?_ | refine qqt ?_); simp only [SS, qx26, simprocAttr, f21, he', ff_29]))
   first | refine qqf ?_ ?_ | refine qqg ?_ ?_
   ·exact fun y hy => (kp5.keep y (by omega)).trans (hk.keep y hy)
   ·simp only [packed, qv, Nat.reduceEqDiff, ↓reduceIte, f21, ff_29]
    rw [hrep]
    exact ⟨none, rfl, .inl ⟨rfl, rfl⟩⟩
 ·have hje : j = rules.length := by omega
  subst hje
  rw [List.drop_length] at hrep
  simp only [replayS] at hrep
  repeat (first | refine qqm rfl ?_ | ((first | refine qqr ?_ | refine qqt ?_); simp only [SS, qx26, simprocAttr, f9, f20, f21, hjl, ff_29]))
  rw [List.length_append] at hlen
  refine AtCall.by (form_gives hw4 hrun (by rw [List.length_reverse]; omega)) ?_
  rintro v n5 H5 k5 ⟨p5, rfl, hp5⟩
  rw [List.reverse_reverse] at hp5
  rw [List.reverse_reverse]
  simp only [SS, qx26, simprocAttr, ff_29]
  repeat (first | refine qqm rfl ?_ | ((first | refine qqr ?_ | refine qqt ?_); simp only [SS, qx26, simprocAttr, ff_29]))
  first | refine qqf ?_ ?_ | refine qqg ?_ ?_
  ·exact fun y hy => ((kp.trans k5).keep y (by omega)).trans (hk.keep y hy)
  ·simp only [packed, qv, Nat.reduceEqDiff, ↓reduceIte, ff_29]
   rw [hrep]
   exact ⟨p5, rfl, hp5⟩
end Go.Proofs.Ytfbdababcdfjfaa

namespace Go.Proofs.Ytfbdababcdfjfaa
open Go.AM
set_option maxRecDepth 100000
def leadV (form : List Int) : List Int := (form.takeWhile AM.neg).map fun s => -s - 1
def leadP (form : List Int) : Int := if form.dropWhile AM.neg = [] then -1 else ((form.takeWhile AM.neg).length : Int)
set_option maxHeartbeats 4000000 in
theorem lead_gives {p : Option Addr} {form : List Int} {n : Nat} {H : Heap} (hw : WF n H) (hp : RA (Value.int .i64) H p form) (hl : form.length ≤ 2147483648) (hr : ∀ s ∈ form, -9223372036854775808 ≤ s) :
    Gives Try.prog 30 [.slice p form.length form.length] n H fun v _ H' => ∃ p', v = .tuple #[.slice p' (leadV form).length (leadV form).length, .int .i64 (leadP form)] ∧ RS (Value.int .i64) H' p' (leadV form) := by
  refine Gives.of orders ok30 (Nat.le_of_ble_eq_true rfl) ?_
  repeat (first | refine qqm rfl ?_ | ((first | refine qqr ?_ | refine qqt ?_); simp only [SS, qx36, vun, simprocAttr, ff_30]))
  refine WK.loop (fun k s => ∃ (j : Nat) (o : List Int), Kp n H s.n s.H ∧ (s.f 4 = .slice none 0 0 ∧ o = [] ∨ ∃ y, s.f 4 = .slice (some ⟨y, 0, none⟩) o.length o.length ∧ s.H y = .cells (o.map (Value.int .i64)) 3 true ∧ n ≤ y) ∧ s.f 7 = .slice p form.length form.length ∧ s.f 8 = .int .i64 (form.length : Nat) ∧ s.f 9 = .int .i64 (j : Nat) ∧ j ≤ form.length ∧
      (∀ s ∈ form.take j, s < 0) ∧ o = (form.take j).map (fun s => -s - 1) ∧ k = form.length - j) form.length ?_ ?_
  · exact ⟨0, [], Kp.refl _ _, .inl ⟨rfl, rfl⟩, rfl, rfl, rfl, Nat.zero_le _, by simp, by simp, rfl⟩
  rintro kk ⟨f, n5, H5⟩ ⟨j, o, kp, ho, f7, f8, f9, hj, hneg, hoe, rfl⟩ ih
  simp only at ho f7 f8 f9 ih kp
  have hw5 := kp.wf hw
  have hrs : ∀ (v : Value), v = f 4 → ∃ p', v = .slice p' o.length o.length ∧ RS (Value.int .i64) H5 p' o := by
    rintro v rfl
    rcases ho with ⟨e, rfl⟩ | ⟨y, e, hy, _⟩
    · exact ⟨none, e, .inl ⟨rfl, rfl⟩⟩
    · refine ⟨_, e, .inr ⟨y, 0, _, _, _, rfl, hy, by simp, fun i s e => ?_⟩⟩
      rw [List.getElem?_map, Nat.zero_add, e]; rfl
  have hol : o.length = j := by rw [hoe, List.length_map, List.length_take]; omega
  by_cases hjl : j < form.length
  · have hjw : IntKind.i64.wrap ((j : Int) + 1) = ((j + 1 : Nat) : Int) := by rw [wrap_in (by omega) (by omega)]; rfl
    obtain ⟨x, kx, ds, tx, ox, rfl, hx, ex⟩ := (hp.mono hw kp).at hjl
    have htj : form.take (j + 1) = form.take j ++ [form[j]] := List.take_succ_eq_append_getElem hjl
    repeat (first | refine qqm rfl ?_ | ((first | refine qqr ?_ | refine qqt ?_); simp only [SS, qx36, vun, simprocAttr, f7, f8, f9, hjl, hx, ex, ff_30]))
    refine AtCall.by (isVar_gives _ _ _) ?_
    rintro v n2 H2 hk2 ⟨rfl, rfl, rfl⟩
    by_cases h0 : 0 ≤ form[j]
    · simp only [SS, qx36, vun, simprocAttr, h0, ff_30]
      repeat (first | refine qqm rfl ?_ | ((first | refine qqr ?_ | refine qqt ?_); simp only [SS, qx36, vun, simprocAttr, ff_30]))
      first | refine qqf ?_ ?_ | refine qqg ?_ ?_
      · exact kp.keep
      · simp only [packed, qv, Nat.reduceEqDiff, ↓reduceIte, ff_30]
        obtain ⟨e1, e2⟩ := tw_at hjl hneg h0
        obtain ⟨p', e3, h3⟩ := hrs _ rfl
        rw [e3]
        unfold leadV leadP
        rw [e1, e2, ← hoe]
        refine ⟨p', ?_, h3⟩
        rw [if_neg (List.cons_ne_nil _ _), List.length_take, Nat.min_eq_left (Nat.le_of_lt hjl)]
    · have hn := bnot_i64 (n := form[j]) (hr _ (List.getElem_mem hjl)) (by omega)
      have hneg' : ∀ s ∈ form.take (j + 1), s < 0 := fun s hs => by
        rw [htj] at hs
        rcases List.mem_append.1 hs with hs | hs
        · exact hneg s hs
        · have : s = form[j] := by simpa using hs
          omega
      have hoe' : o ++ [-form[j] - 1] = (form.take (j + 1)).map (fun s => -s - 1) := by rw [htj, List.map_append, ← hoe]; rfl
      rcases ho with ⟨e, rfl⟩ | ⟨y, e, hy, hyn⟩
      · simp only [SS, qx36, vun, simprocAttr, h0, ff_30]
        repeat (first | refine qqm rfl ?_ | ((first | refine qqr ?_ | refine qqt ?_); simp only [SS, qx36, vun, simprocAttr, e, f9, hjw, hn, ff_30]))
        refine ih (form.length - (j + 1)) (by omega) _ ⟨j + 1, [-form[j] - 1], (kp.trans (Kp.new n2 H2 (.cells [.int .i64 (-form[j] - 1)] 3 true))).trans (Kp.new (n2 + 1) _ (.cells [.int .i64 (-form[j] - 1)] 3 true)), .inr ⟨n2 + 1, rfl, hset_at _ _ _, by have := kp.le; omega⟩, f7, f8, ?_, hjl, hneg', hoe', rfl⟩
        simp only [packed, qv, Nat.reduceEqDiff, ↓reduceIte, f9, hjw, ff_30]
      · have hyl := live_lt hw5 (live_of hy)
        have v1 : o.length ≤ (o.map (Value.int .i64)).length := by simp
        have v2 : [n2].contains y = false := by simp; omega
        have v3 : o.length + 1 ≤ bigN := by unfold bigN; omega
        have v5 : ∀ q, hset H2 n2 q y = _ := fun q => (hset_ne _ _ _ (by omega)).trans hy
        have v6 : (o.map (Value.int .i64)).take o.length = o.map (Value.int .i64) := List.take_of_length_le (by simp)
        simp only [SS, qx36, vun, simprocAttr, h0, ff_30]
        repeat (first | refine qqm rfl ?_ | ((first | refine qqr ?_ | refine qqt ?_); simp only [SS, qx36, vun, simprocAttr, e, f9, hjw, hn, v1, v2, v3, v5, v6, List.drop_zero, ff_30]))
        refine ih (form.length - (j + 1)) (by omega) _ ⟨j + 1, o ++ [-form[j] - 1], ((kp.trans (Kp.new n2 H2 (.cells [.int .i64 (-form[j] - 1)] 3 true))).set (x := y) .dead hyn (by omega)).trans (Kp.new (n2 + 1) _ (.cells (o.map (Value.int .i64) ++ [.int .i64 (-form[j] - 1)]) 3 true)), .inr ⟨n2 + 1, ?_, ?_, by have := kp.le; omega⟩, f7, f8, ?_, hjl, hneg', hoe', rfl⟩
        · simp only [packed, qv, Nat.reduceEqDiff, ↓reduceIte, ff_30]
          simp
        · refine (hset_at _ _ _).trans ?_
          rw [List.map_append]; rfl
        · simp only [packed, qv, Nat.reduceEqDiff, ↓reduceIte, f9, hjw, ff_30]
  · repeat (first | refine qqm rfl ?_ | ((first | refine qqr ?_ | refine qqt ?_); simp only [SS, qx36, vun, simprocAttr, f8, f9, hjl, ff_30]))
    first | refine qqf ?_ ?_ | refine qqg ?_ ?_
    · exact kp.keep
    · simp only [packed, qv, Nat.reduceEqDiff, ↓reduceIte, ff_30]
      rw [List.take_of_length_le (by omega)] at hneg hoe
      obtain ⟨e1, e2⟩ := tw_all hneg
      obtain ⟨p', e3, h3⟩ := hrs _ rfl
      rw [e3]
      unfold leadV leadP
      rw [e1, e2, if_pos rfl, ← hoe]
      exact ⟨p', rfl, h3⟩
def yieldS (g : Gram) (form rules : List Int) : List Int × Nat :=
 if (replayL g form rules).2.2 = 0 then (if 0 ≤ leadP (replayL g form rules).1 then ([], 13) else (leadV (replayL g form rules).1, 0)) else ([], (replayL g form rules).2.2)
theorem stepS_ge {g : Gram} (ok : RightOK g) {form : List Int} (hf : ∀ s ∈ form, -9223372036854775808 ≤ s) (r : Int) : ∀ s ∈ (stepS g form r).1, -9223372036854775808 ≤ s := by
 by_cases h : (stepS g form r).2 = 0
 ·obtain ⟨i, hi, t, rest, _, e1, e2, _⟩ := stepS_ok (g := g) (form := form) (r := r) (form' := (stepS g form r).1) (by rw [← h])
  intro s hs
  rw [e2] at hs
  have ht := ok.terms
  rcases List.mem_append.1 hs with hs | hs
  ·rcases List.mem_append.1 hs with hs | hs
   ·exact hf s (by rw [e1]; simp [hs])
   ·have := ((ok.rule i hi).sym s hs).2
    omega
  ·exact hf s (by rw [e1]; simp [hs])
 ·have := stepS_err h
  rw [this]; intro s hs; cases hs
theorem replayS_ge {g : Gram} (ok : RightOK g) : ∀ (rules form : List Int) (k : Nat), (∀ s ∈ form, -9223372036854775808 ≤ s) → (∀ s ∈ (replayS g form rules k).1, -9223372036854775808 ≤ s) ∧ (replayS g form rules k).1.length ≤ form.length + 24 * rules.length := by
 intro rules
 induction rules with
 | nil => intro form k h; exact ⟨h, by simp [replayS]⟩
 | cons r rules ih =>
  intro form k h
  simp only [replayS]
  split
  ·obtain ⟨h1, h2⟩ := ih (stepS g form r).1 (k + 1) (stepS_ge ok h r)
   refine ⟨h1, ?_⟩
   have := stepS_len ok form r
   rw [List.length_cons]; omega
  ·exact ⟨fun s hs => (by cases hs), by simp⟩
theorem replayL_ge {g : Gram} (ok : RightOK g) (form rules : List Int) (h : ∀ s ∈ form, -9223372036854775808 ≤ s) : (∀ s ∈ (replayL g form rules).1, -9223372036854775808 ≤ s) ∧ (replayL g form rules).1.length ≤ form.length + 24 * rules.length := by
 unfold replayL
 split
 ·exact ⟨fun s hs => (by cases hs), by simp⟩
 ·exact replayS_ge ok _ _ _ h
theorem yield_gives {v : Value} {g : Gram} {p q : Option Addr} {form rules : List Int} {n : Nat} {H : Heap} (hw : WF n H) (hg : RG H v g) (wg : WG g) (ok : RightOK g) (hp : RA (Value.int .i64) H p form) (hq : RA (Value.int .i64) H q rules) (hl : form.length + 24 * rules.length + 24 ≤ 2147483648) (hf : ∀ s ∈ form, -9223372036854775808 ≤ s) :
  Gives Try.prog 28 [v, .slice p form.length form.length, .slice q rules.length rules.length] n H fun v _ H' => ∃ p', v = .tuple #[.slice p' (yieldS g form rules).1.length (yieldS g form rules).1.length, .int .i64 ((yieldS g form rules).2 : Nat)] ∧ RS (Value.int .i64) H' p' (yieldS g form rules).1 := by
 have hg0 := hg
 obtain ⟨pt, pv, pr, rfl, ht, hv, hr⟩ := hg
 refine Gives.of orders ok28 (Nat.le_of_ble_eq_true rfl) ?_
 have hk := Kp.new n H (.cells (gcells pt pv pr g) 25 true)
 have hb := hset_at H n (.cells (gcells pt pv pr g) 25 true)
 repeat refine qqn rfl ?_
 (refine qqr ?_; simp only [SS, qx35, simprocAttr, box_cells, box_one, ff_28])
 generalize hset H n (.cells (gcells pt pv pr g) 25 true) = H1 at *
 have hw1 := hk.wf hw
 have hge := replayL_ge ok form rules hf
 repeat refine qqn rfl ?_
 (refine qqr ?_; simp only [SS, qx35, simprocAttr, hb, gc_len, gc_all, ff_28])
 refine AtCall.by (replay_gives hw1 (hg0.mono hw hk) wg ok (hp.mono hw hk) (hq.mono hw hk) hl) ?_
 rintro v n2 H2 k2 ⟨p2, rfl, hp2⟩
 have kk := hk.trans k2
 unfold yieldS
 generalize replayL g form rules = R at *
 obtain ⟨out, w, e⟩ := R
 simp only at hp2 hge ⊢
 by_cases he : e = 0
 ·subst he
  have h00 : (((0 : Nat) : Int) = 0) = True := by simp
  simp only [SS, qx35, simprocAttr, ff_28]
  repeat (first | refine qqm rfl ?_ | ((first | refine qqr ?_ | refine qqt ?_); simp only [SS, qx35, simprocAttr, h00, ff_28]))
  refine AtCall.by (lead_gives (kk.wf hw) hp2.ra (by omega) hge.1) ?_
  rintro v n3 H3 k3 ⟨p3, rfl, hp3⟩
  by_cases hlp : 0 ≤ leadP out
  ·simp only [SS, qx35, simprocAttr, ff_28]
   repeat (first | refine qqm rfl ?_ | ((first | refine qqr ?_ | refine qqt ?_); simp only [SS, qx35, simprocAttr, hlp, ff_28]))
   first | refine qqf ?_ ?_ | refine qqg ?_ ?_
   ·exact (kk.trans k3).keep
   ·simp only [packed, qv, Nat.reduceEqDiff, ↓reduceIte, ff_28]
    exact ⟨none, rfl, .inl ⟨rfl, rfl⟩⟩
  ·simp only [SS, qx35, simprocAttr, ff_28]
   repeat (first | refine qqm rfl ?_ | ((first | refine qqr ?_ | refine qqt ?_); simp only [SS, qx35, simprocAttr, hlp, ff_28]))
   first | refine qqf ?_ ?_ | refine qqg ?_ ?_
   ·exact (kk.trans k3).keep
   ·simp only [packed, qv, Nat.reduceEqDiff, ↓reduceIte, ff_28]
    exact ⟨p3, rfl, hp3⟩
 ·have h00 : ((e : Int) = 0) = False := by simp; exact he
  simp only [SS, qx35, simprocAttr, ff_28]
  repeat (first | refine qqm rfl ?_ | ((first | refine qqr ?_ | refine qqt ?_); simp only [SS, qx35, simprocAttr, h00, ff_28]))
  first | refine qqf ?_ ?_ | refine qqg ?_ ?_
  ·exact kk.keep
  ·simp only [packed, qv, Nat.reduceEqDiff, ↓reduceIte, ff_28]
   rw [if_neg he]
   exact ⟨none, rfl, .inl ⟨rfl, rfl⟩⟩
end Go.Proofs.Ytfbdababcdfjfaa
