/- A part of a proof. Its conditions: none. -/
import Derived.Test.YtfbdababcdfjfaaAmNLfLay
import Derived.Test.YtfbdababcdfjfaaAmNUseYield
import Derived.Test.YtfbdababcdfjfaaAmNFacts
import Derived.Test.YtfbdababcdfjfaaAmC
set_option linter.all false
namespace Go.Proofs.Ytfbdababcdfjfaa
open Go.AM Go.AM.Fo
set_option maxRecDepth 100000
theorem countA_gives {n : Nat} {H : Heap} {p : Option Addr} {R : List Int} {a : Int} (hw : WF n H) (hR : RA (Value.int .i64) H p R) (hl : R.length ≤ 65536) :
  Gives Try.prog 25 [.slice p R.length R.length, .int .i64 a] n H fun v _ _ => v = .int .i64 (R.count a : Nat) := by
 refine Gives.of orders ok25 (Nat.le_of_ble_eq_true rfl) ?_
 repeat (first | refine qqm rfl ?_ | ((first | refine qqr ?_ | refine qqt ?_); simp only [SS, qx11, simprocAttr, ff_25]))
 refine WK.loop (fun kk s => ∃ i : Nat, s.n = n ∧ s.H = H ∧ s.f 1 = .int .i64 a ∧ s.f 5 = .int .i64 ((R.take i).count a : Nat) ∧ s.f 8 = .slice p R.length R.length ∧ s.f 9 = .int .i64 (R.length : Nat) ∧ s.f 10 = .int .i64 (i : Nat) ∧ i ≤ R.length ∧ kk = R.length - i) R.length ?_ ?_
 ·exact ⟨0, rfl, rfl, rfl, rfl, rfl, rfl, rfl, Nat.zero_le _, rfl⟩
 rintro kk ⟨f, n1, H1⟩ ⟨i, e1, e2, f1, f5, f8, f9, f10, hil, rfl⟩ ih
 simp only at e1 e2 f1 f5 f8 f9 f10 ih
 subst e1 e2
 by_cases hlt : i < R.length
 ·have hiw : IntKind.i64.wrap ((i : Int) + 1) = ((i + 1 : Nat) : Int) := by rw [wrap_in (by omega) (by omega)]; rfl
  have hcl : (R.take i).count a ≤ R.length := Nat.le_trans List.count_le_length (by rw [List.length_take]; omega)
  have hcw : IntKind.i64.wrap (((R.take i).count a : Int) + 1) = (((R.take i).count a + 1 : Nat) : Int) := by rw [wrap_in (by omega) (by omega)]; rfl
  obtain ⟨z, kz, ds, tz, oz, e0, hz, e⟩ := hR.at hlt
  subst e0
  have htk : (R.take (i + 1)).count a = (R.take i).count a + if R[i] = a then 1 else 0 := by
   rw [List.take_add_one, List.getElem?_eq_getElem hlt, List.count_append]
   simp [List.count_singleton]
  by_cases he : R[i] = a
  ·rw [if_pos he] at htk
   have he' : (R[i] = a) = True := eq_true he
   repeat (first | refine qqm rfl ?_ | ((first | refine qqr ?_ | refine qqt ?_); simp only [SS, qx11, simprocAttr, f1, f5, f8, f9, f10, hlt, hz, e, he', decide_true, hiw, hcw, ff_25]))
   refine ih (R.length - (i + 1)) (by omega) _ ?_
   exact ⟨i + 1, rfl, rfl, f1, by rw [htk]; rfl, f8, f9, rfl, hlt, rfl⟩
  ·rw [if_neg he, Nat.add_zero] at htk
   have he' : (R[i] = a) = False := eq_false he
   repeat (first | refine qqm rfl ?_ | ((first | refine qqr ?_ | refine qqt ?_); simp only [SS, qx11, simprocAttr, f1, f5, f8, f9, f10, hlt, hz, e, he', decide_false, hiw, ff_25]))
   refine ih (R.length - (i + 1)) (by omega) _ ?_
   exact ⟨i + 1, rfl, rfl, f1, by rw [htk]; exact f5, f8, f9, rfl, hlt, rfl⟩
 ·obtain rfl : i = R.length := by omega
  rw [List.take_length] at f5
  repeat (first | refine qqm rfl ?_ | ((first | refine qqr ?_ | refine qqt ?_); simp only [SS, qx11, simprocAttr, f5, f9, f10, hlt, ff_25]))
  first | refine qqf ?_ ?_ | refine qqg ?_ ?_
  ·exact fun _ _ => rfl
  ·simp only [packed, qv, Nat.reduceEqDiff, ↓reduceIte, ff_25]
theorem rise_count : ∀ {R : List Int}, R.Pairwise (· < ·) → ∀ {a : Int}, a ∈ R → R.count a = 1
 | [], _, a, h => absurd h (by simp)
 | b :: R, hp, a, h => by
  obtain ⟨h1, h2⟩ := List.pairwise_cons.1 hp
  rw [List.count_cons]
  by_cases hb : b = a
  ·subst hb
   have : R.count b = 0 := List.count_eq_zero.2 fun hm => by have := h1 b hm; omega
   rw [this]; simp
  ·rcases List.mem_cons.1 h with e | e
   ·exact absurd e.symm hb
   ·rw [rise_count h2 e]; simp [hb]
theorem yieldK_dv {g : Gram} (hg : InG g) {form rules : List Int} (h : (yieldS g form rules).2 = 0) (hl : rules.length ≤ 4096) : Dv g form rules (yieldS g form rules).1 ∧ ∃ F q, replayS g form rules 0 = (F, q, 0) := by
 have eL : replayL g form rules = replayS g form rules 0 := by unfold replayL; rw [if_neg (by omega)]
 unfold yieldS at h ⊢
 rw [eL] at h ⊢
 have hry := fun t q => replay_dv hg rules form t 0 q
 generalize hR : replayS g form rules 0 = R at *
 obtain ⟨out, q, e⟩ := R
 simp only at h ⊢
 by_cases he : e = 0
 ·subst he
  refine ⟨?_, out, q, rfl⟩
  rw [if_pos rfl] at h ⊢
  by_cases hp : 0 ≤ leadP out
  ·rw [if_pos hp] at h; cases h
  ·rw [if_neg hp]
   have hall : ∀ s ∈ out, s < 0 := by
    unfold leadP at hp
    by_cases hd : out.dropWhile AM.neg = []
    ·have e := List.takeWhile_append_dropWhile (p := AM.neg) (l := out)
     rw [hd, List.append_nil] at e
     intro s hs
     rw [← e] at hs
     exact takeWhile_neg hs
    ·rw [if_neg hd] at hp; omega
   obtain ⟨e1, _⟩ := tw_all hall
   unfold leadV
   rw [e1]
   exact hry out q rfl hall
 ·rw [if_neg he] at h; exact absurd h he
theorem ra_lit {H : Heap} {y : Nat} {a : Int} {ty : TypeId} (h : H y = .cells [.int .i64 a] ty true) : RA (Value.int .i64) H (some ⟨y, 0, none⟩) [a] := fun _ => ⟨y, 0, _, _, true, rfl, h, fun i z e => by
 cases i with
 | zero => simp at e; subst e; rfl
 | succ i => simp at e⟩
theorem rest_mod (j l : Nat) : ((j : Int).tmod (l : Int)) = ((j % l : Nat) : Int) := rfl
def AOk (H : Heap) (p : Option Addr) : Prop := ∀ x k sp, p = some ⟨x, k, sp⟩ → ∀ cs ty own, H x = .cells cs ty own → own = false
set_option maxHeartbeats 64000000 in
theorem keeps_gives {vg : Value} {g : Gram} {za : Int} {pd : Option Addr} {d : List Int} {n : Nat} {H : Heap} (hw : WF n H) (hg : RG H vg g) (wg : WG g) (hp : RS (Value.int .i64) H pd d) (hao : AOk H pd) :
    Gives Try.prog 6 [vg, .slice pd d.length d.length, .int .i64 za] n H fun w _ _ => w = .bool true := by
  have hg0 := hg
  have hw0 := hw
  obtain ⟨pt, pv, pr, rfl, ht, hvs, hr⟩ := hg
  refine Gives.of orders ok6 (Nat.le_of_ble_eq_true rfl) ?_
  have v1 : ∀ s, vcells (.agg (ccell s).toArray) = ccell s := fun _ => rfl
  have v2 : ∀ s, (ccell s).all one = true := fun _ => rfl
  have v0 : ∀ s, (ccell s)[0]? = some (.int .i64 s.1.alt) := fun _ => rfl
  have v5 : ∀ s, (ccell s).length = 4 := fun _ => rfl
  have v6 : ∀ s, ((ccell s).drop 0).take 4 = ccell s := fun _ => rfl
  have hs4 : ∀ (a b c d : Value) (x : CA), AM.splice [a, b, c, d] 0 (ccell x) = ccell x := fun _ _ _ _ _ => rfl
  have g2 : ((gcells pt pv pr g).drop 0).take 3 = gcells pt pv pr g := rfl
  have g3 : (gcells pt pv pr g).length = 3 := rfl
  repeat refine qqn rfl ?_
  (refine qqr ?_; simp only [SS, qx2, vun, simprocAttr, abox, box_cells, box_one, ff_6])
  have k1 := Kp.new n H (.cells (gcells pt pv pr g) 25 true)
  have hG := hset_at H n (.cells (gcells pt pv pr g) 25 true)
  generalize hset H n (.cells (gcells pt pv pr g) 25 true) = H1 at *
  have hw1 := k1.wf hw
  have hg1 : RG H1 (.agg (gcells pt pv pr g).toArray) g := hg0.mono hw k1
  repeat (first | refine qqm rfl ?_ | ((first | refine qqr ?_ | refine qqt ?_); simp only [SS, qx2, vun, simprocAttr, ff_6]))
  refine AtCall.by (alive_gives _ _) ?_
  rintro _ n2 H2 k2 ⟨rfl, hn2, hH2⟩
  subst hn2
  obtain rfl := hH2.symm
  simp only [SS, qx2, vun, simprocAttr, ff_6]
  repeat (first | refine qqm rfl ?_ | ((first | refine qqr ?_ | refine qqt ?_); simp only [SS, qx2, vun, simprocAttr, hG, g2, g3, ff_6]))
  refine AtCall.by (whole12_gives hw1 hg1 wg) ?_
  rintro _ n3 H3 k3 ⟨t, rfl, ht0⟩
  have hw3 := k3.wf hw1
  have hle3 := k3.le
  have k13 := k1.trans k3
  have hG3 := (k3.keep n (by omega)).trans hG
  have hg3' := hg0.mono hw k13
  rcases ht0 with rfl | ⟨rfl, okx, hfew, hall⟩
  · simp only [SS, qx2, vun, simprocAttr, decide_true, ff_6]
    repeat (first | refine qqm rfl ?_ | ((first | refine qqr ?_ | refine qqt ?_); simp only [SS, qx2, vun, simprocAttr, ff_6]))
    first | refine qqf ?_ ?_ | refine qqg ?_ ?_
    · exact k13.keep
    · simp only [packed, qv, Nat.reduceEqDiff, ↓reduceIte, ff_6]
  have ok := okx.toRightOK
  have hi := ok.inG
  unfold few at hfew
  simp only [Bool.and_eq_true, decide_eq_true_eq, List.all_eq_true] at hfew
  obtain ⟨⟨⟨fw1, fw2⟩, fw3⟩, fw4⟩ := hfew
  have hgl : g.terms.length ≤ 64 ∧ g.vars.length ≤ 64 := ⟨by omega, by omega⟩
  have hlen : ∀ r ∈ g.rules, r.right.length ≤ 24 := fun r hr => by have := fw4 r hr; omega
  have h10 : ((1 : Int) = 0) = False := eq_false (by decide)
  by_cases hw60 : 60 < d.length
  · have hw60' : ((60 : Int) < (d.length : Int)) = True := eq_true (by omega)
    simp only [SS, qx2, vun, simprocAttr, h10, hw60', decide_true, decide_false, ff_6]
    repeat (first | refine qqm rfl ?_ | ((first | refine qqr ?_ | refine qqt ?_); simp only [SS, qx2, vun, simprocAttr, ff_6]))
    first | refine qqf ?_ ?_ | refine qqg ?_ ?_
    · exact k13.keep
    · simp only [packed, qv, Nat.reduceEqDiff, ↓reduceIte, ff_6]
  have hw60' : ((60 : Int) < (d.length : Int)) = False := eq_false (by omega)
  by_cases hd0 : d.length = 0
  · have hd0' : ((d.length : Int) = 0) = True := eq_true (by omega)
    simp only [SS, qx2, vun, simprocAttr, h10, hw60', hd0', decide_true, decide_false, ff_6]
    repeat (first | refine qqm rfl ?_ | ((first | refine qqr ?_ | refine qqt ?_); simp only [SS, qx2, vun, simprocAttr, ff_6]))
    first | refine qqf ?_ ?_ | refine qqg ?_ ?_
    · exact k13.keep
    · simp only [packed, qv, Nat.reduceEqDiff, ↓reduceIte, ff_6]
  have hd0' : ((d.length : Int) = 0) = False := eq_false (by omega)
  simp only [SS, qx2, vun, simprocAttr, h10, hw60', hd0', decide_false, ff_6]
  repeat refine qqn rfl ?_
  refine qqm rfl ?_
  apply WK.skipSeq; apply WK.seq
  refine WK.frame (fun f => f 1 = .slice pd d.length d.length ∧ f 2 = .int .i64 za ∧ f 3 = .pointer (some ⟨n, 0, none⟩)) ⟨rfl, rfl, rfl⟩ ?_
  rintro f ⟨f1, f2, f3⟩
  have kl := Kp.new n3 H3 (.cells [.int .i64 0] 3 true)
  have hl0 := hset_at H3 n3 (.cells [.int .i64 0] 3 true)
  have q1 : ∀ o, hset H3 n3 o n = _ := fun o => (hset_ne _ _ _ (by omega)).trans hG3
  repeat (first | refine qqm rfl ?_ | ((first | refine qqr ?_ | refine qqt ?_); simp only [SS, qx2, vun, simprocAttr, f1, f3, hG3, q1, g2, g3, ff_6]))
  have hw4 := kl.wf hw3
  have k14 := k13.trans kl
  have hd60 : d.length ≤ 60 := by omega
  generalize hset H3 n3 (.cells [.int .i64 0] 3 true) = H4 at *
  refine AtCall.by (yield_gives hw4 (hg0.mono hw k14) wg ok (ra_lit hl0) (hp.ra.mono hw k14) (by simp; omega) (by simp)) ?_
  rintro _ n5 H5 k5 ⟨py, rfl, hpy⟩
  have hw5 := k5.wf hw4
  have hle5 := k5.le
  have k15 := k14.trans k5
  have hG5 := ((kl.trans k5).keep n (by omega)).trans hG3
  by_cases he0 : (yieldS g [0] d).2 = 0
  case neg =>
    have he0' : (((yieldS g [0] d).2 : Int) = 0) = False := eq_false (by omega)
    simp only [SS, qx2, vun, simprocAttr, List.toList_toArray, ff_6]
    repeat (first | refine qqm rfl ?_ | ((first | refine qqr ?_ | refine qqt ?_); simp only [SS, qx2, vun, simprocAttr, he0', decide_false, Bool.not_false, ff_6]))
    first | refine qqf ?_ ?_ | refine qqg ?_ ?_
    · exact k15.keep
    · simp only [packed, qv, Nat.reduceEqDiff, ↓reduceIte, ff_6]
  have he0' : (((yieldS g [0] d).2 : Int) = 0) = True := eq_true (by omega)
  obtain ⟨hdv, FF, qq0, hrep⟩ := yieldK_dv hi he0 (by omega)
  generalize hwy : (yieldS g [0] d).1 = w at *
  obtain ⟨ja, hja, hjw⟩ := low_mask za 255 (by omega)
  have hjw' : IntKind.i64.wrap ((BitVec.ofInt IntKind.i64.bits za &&& BitVec.ofInt IntKind.i64.bits 255).toNat : Int) = (ja : Int) := hjw
  obtain ⟨at_, hat⟩ : ∃ k, ja % d.length = k := ⟨_, rfl⟩
  have hatl : at_ < d.length := by rw [← hat]; exact Nat.mod_lt _ (by omega)
  have hrest : ((ja : Int).tmod (d.length : Int)) = (at_ : Int) := by rw [rest_mod, hat]
  simp only [SS, qx2, vun, simprocAttr, List.toList_toArray, ff_6]
  repeat refine qqn rfl ?_
  (refine qqr ?_; simp only [SS, qx2, vun, simprocAttr, he0', decide_true, Bool.not_true, ff_6])
  repeat refine qqn rfl ?_
  refine qqm rfl ?_
  apply WK.skipSeq; apply WK.seq
  (refine qqr ?_; simp only [SS, qx2, vun, simprocAttr, f1, f2, hjw', hd0', hrest, ff_6])
  have hw1441 : w.length ≤ 1441 := by
    have h := (replayL_ge ok [0] d (by simp)).2
    rw [← hwy]
    unfold yieldS
    split
    · split
      · simp
      · unfold leadV
        rw [List.length_map]
        have := (List.takeWhile_sublist AM.neg (l := (replayL g [0] d).1)).length_le
        simp at h
        omega
    · simp
  obtain ⟨F, q0, hF⟩ := replay_pre (d.take at_) [0] (d.drop at_) 0 (by rw [List.take_append_drop]; exact hrep)
  obtain ⟨r, w', hrl, hdr, hww, hAc⟩ := keeps_first hi hdv hatl hF
  have htl : (d.take at_).length = at_ := by rw [List.length_take]; omega
  have hFL : replayL g [0] (d.take at_) = (F, q0, 0) := by unfold replayL; rw [if_neg (by omega)]; exact hF
  have hFg := replayL_ge ok [0] (d.take at_) (by simp)
  rw [hFL] at hFg
  obtain ⟨xd, kd, cd, td, od, hpd, hxd, hkd, hed⟩ : ∃ x k cs ty own, pd = some ⟨x, k, none⟩ ∧ H x = .cells cs ty own ∧ k + d.length ≤ cs.length ∧ ∀ i y, d[i]? = some y → cs[k + i]? = some (.int .i64 y) := by
    rcases hp with ⟨_, h⟩ | h
    · rw [h] at hd0; exact absurd rfl hd0
    · exact h
  have hod : od = false := hao xd kd none hpd _ _ _ hxd
  subst hod hpd
  have hxn := live_lt hw0 (live_of hxd)
  have hxd5 := (k15.keep xd hxn).trans hxd
  refine WK.frame (fun f => f 1 = .slice (some ⟨xd, kd, none⟩) d.length d.length ∧ f 2 = .int .i64 (at_ : Nat) ∧ f 3 = .pointer (some ⟨n, 0, none⟩) ∧ f 7 = .slice py w.length w.length) ⟨f1, rfl, f3, rfl⟩ ?_
  clear f1 f2 f3 f
  rintro f ⟨f1, f2, f3, f7⟩
  have kl5 := Kp.new n5 H5 (.cells [.int .i64 0] 3 true)
  have hl5 := hset_at H5 n5 (.cells [.int .i64 0] 3 true)
  have q5 : ∀ o, hset H5 n5 o xd = _ := fun o => (hset_ne _ _ _ (by omega)).trans hxd5
  have hatle : at_ ≤ d.length := by omega
  repeat refine qqn rfl ?_
  (refine qqr ?_; simp only [SS, qx2, vun, simprocAttr, f1, f2, f3, hG5, g2, g3, q5, hatle, hset_at, Bool.false_eq_true, false_implies, implies_true, Nat.zero_mul, Nat.mul_one, Nat.add_zero, Nat.sub_zero, Nat.zero_le, ff_6])
  have hw6 := kl5.wf hw5
  have k16 := k15.trans kl5
  have hdt : RA (Value.int .i64) H (some ⟨xd, kd, none⟩) (d.take at_) := fun _ => ⟨xd, kd, _, _, _, rfl, hxd, fun i y e => hed i y (by
    rw [List.getElem?_take] at e
    split at e
    · exact e
    · cases e)⟩
  have hrc := replay_gives (form := [0]) (rules := d.take at_) hw6 (hg0.mono hw k16) wg ok (ra_lit hl5) (hdt.mono hw k16) (by rw [htl]; simp; omega)
  rw [htl, hFL] at hrc
  generalize hset H5 n5 (.cells [.int .i64 0] 3 true) = H6 at *
  refine AtCall.by hrc ?_
  rintro _ n7 H7 k7 ⟨pF, rfl, hpF⟩
  have hw7 := k7.wf hw6
  have hle7 := k7.le
  have hFl : F.length ≤ 1441 := by have := hFg.2; rw [htl] at this; simp at this; omega
  simp only [SS, qx2, vun, simprocAttr, List.toList_toArray, ff_6]
  repeat (first | refine qqm rfl ?_ | ((first | refine qqr ?_ | refine qqt ?_); simp only [SS, qx2, vun, simprocAttr, ff_6]))
  refine AtCall.by (lead_gives hw7 hpF.ra (by omega) hFg.1) ?_
  rintro _ n8 H8 k8 ⟨pl, rfl, hpl⟩
  have hw8 := k8.wf hw7
  have hle8 := k8.le
  have k58 := kl5.trans (k7.trans k8)
  have k18 := k15.trans k58
  have hG8 := (k58.keep n (by omega)).trans hG5
  have hxd8 := (k58.keep xd (by omega)).trans hxd5
  have hww2 : w = leadV F ++ w' := hww
  have hldl : (leadV F).length ≤ 1441 := by rw [hww2, List.length_append] at hw1441; omega
  simp only [SS, qx2, vun, simprocAttr, List.toList_toArray, ff_6]
  repeat (first | refine qqm rfl ?_ | ((first | refine qqr ?_ | refine qqt ?_); simp only [SS, qx2, vun, simprocAttr, f3, hG8, g2, g3, ff_6]))
  refine AtCall.by (new_gives hw8 (hg0.mono hw k18) wg ok) ?_
  rintro _ n9 H9 k9 ⟨nn, ot, ov, or1, cc, cl, rfl, ne, hcl⟩
  have hw9 := k9.wf hw8
  have hle9 := k9.le
  have k19 := k18.trans k9
  have hG9 := (k9.keep n (by omega)).trans hG8
  have hxd9 := (k9.keep xd (by omega)).trans hxd8
  have hda : cd[kd + at_]? = some (.int .i64 ((r : Nat) : Int)) := by
    rw [← hdr]; exact hed at_ _ (List.getElem?_eq_getElem hatl)
  have hpy9 := hpy.mono hw5 (k58.trans k9)
  obtain ⟨u, ku, cu, tu, ou, pu, hpu, hu, c0, c1, c2, hru'⟩ := (hr.mono hw k19).at hrl
  subst hpu
  generalize leadV F = ld at *
  simp only [SS, qx2, vun, simprocAttr, ff_6]
  refine WK.frame (fun f => f 1 = .slice (some ⟨xd, kd, none⟩) d.length d.length ∧ f 2 = .int .i64 (at_ : Nat) ∧ f 3 = .pointer (some ⟨n, 0, none⟩) ∧ f 7 = .slice py w.length w.length ∧ f 12 = .slice pl ld.length ld.length ∧ f 14 = .pointer (some ⟨nn, 0, none⟩)) ⟨f1, f2, f3, f7, rfl, rfl⟩ ?_
  clear f1 f2 f3 f7 f
  rintro f ⟨f1, f2, f3, f7, f12, f14⟩
  repeat (first | refine qqm rfl ?_ | ((first | refine qqr ?_ | refine qqt ?_); simp only [SS, qx2, vun, simprocAttr, f1, f2, f3, f14, hG9, gc_2, hxd9, hatl, hda, hu, c0, hrl, ff_6]))
  refine AtCall.by (start_gives hw9 ne ok) ?_
  rintro _ n10 H10 k10 ⟨p10, rfl, hp10⟩
  have hw10 := k10.wf hw9
  have hle10 := k10.le
  have ne10 := ne.mono hw9 k10
  have hxd10 := (k10.keep xd (by omega)).trans hxd9
  have hpy10 := hpy9.mono hw9 k10
  have s1 := startL_mem g g.rules[r].left
  have s2 := Nat.le_trans (startL_len g g.rules[r].left) fw3
  have hstart : ⟨(r : Nat), (r : Nat), ((0 : Nat) : Int), []⟩ ∈ (startL g g.rules[r].left).map (·.1) := by
    rw [startL_map ok]
    refine List.mem_map.2 ⟨r, ?_, rfl⟩
    unfold ruleIx
    rw [List.mem_filter, List.mem_range]
    exact ⟨hrl, by rw [List.getElem?_eq_getElem hrl]; simp⟩
  simp only [SS, qx2, vun, simprocAttr, ff_6]
  repeat (first | refine qqm rfl ?_ | ((first | refine qqr ?_ | refine qqt ?_); simp only [SS, qx2, vun, simprocAttr, f12, ff_6]))
  have hwd : w.drop ld.length = w' := by rw [hww2]; simp
  have k110 := k19.trans k10
  refine WK.loop (fun kk s => ∃ (k : Nat) (p : Option Addr) (L : List CA), Kp n10 H10 s.n s.H ∧ s.f 1 = .slice (some ⟨xd, kd, none⟩) d.length d.length ∧ s.f 2 = .int .i64 (at_ : Nat) ∧ s.f 3 = .pointer (some ⟨n, 0, none⟩) ∧ s.f 7 = .slice py w.length w.length ∧ s.f 12 = .slice pl ld.length ld.length ∧ s.f 14 = .pointer (some ⟨nn, 0, none⟩) ∧ s.f 15 = .slice p L.length L.length ∧ s.f 16 = .int .i64 (k : Nat) ∧ k ≤ w.length + 1 ∧
      RN 4 ccell s.H p L ∧ (∀ z ∈ L, XC s.H z) ∧ L.length ≤ 1000 ∧ (∀ z ∈ L, GC g z.1 ∧ AltOK g z.1 ∧ z.1.stack.length ≤ 1000) ∧ (k ≤ w.length → ∃ c ∈ L.map (·.1), c.alt = (r : Int) ∧ Ac g c (w.drop k)) ∧ kk = w.length + 1 - k) (w.length + 1 - ld.length) ?_ ?_
  · refine ⟨ld.length, p10, _, Kp.refl _ _, f1, f2, f3, f7, f12, f14, rfl, rfl, by rw [hww2, List.length_append]; omega, hp10, fun z hz => ⟨.inl ⟨(s1 z hz).1, (s1 z hz).2.1⟩, fun z' k e => by rw [(s1 z hz).1] at e; cases e⟩, by omega, fun z hz => ⟨(s1 z hz).2.2, ?_, by rw [(s1 z hz).2.1]; exact Nat.zero_le _⟩, fun _ => ⟨_, hstart, rfl, by rw [hwd]; exact hAc⟩, rfl⟩
    have hz' : z.1 ∈ (startL g g.rules[r].left).map (·.1) := List.mem_map.2 ⟨z, hz, rfl⟩
    rw [startL_map ok] at hz'
    obtain ⟨q, hq, e⟩ := List.mem_map.1 hz'
    unfold ruleIx at hq
    have hr1 := List.mem_range.1 (List.mem_filter.1 hq).1
    rw [← e]
    exact ⟨by show (0 : Int) ≤ (q : Int); omega, by show (q : Int) < _; omega⟩
  clear f1 f2 f3 f7 f12 f14
  rintro kk ⟨f, n11, H11⟩ ⟨k, p, L, k11, f1, f2, f3, f7, f12, f14, f15, f16, hkl, hL, hLx, hLl, hLg, hLa, rfl⟩ ih
  simp only at k11 f1 f2 f3 f7 f12 f14 f15 f16 hL hLx ih
  have hw11 := k11.wf hw10
  have hle11 := k11.le
  have ne11 := ne10.mono hw10 k11
  have hxd11 := (k11.keep xd (by omega)).trans hxd10
  have k111 := k110.trans k11
  have h9 : IntKind.i64.wrap ((ld.length : Int) + 9) = ((ld.length + 9 : Nat) : Int) := by rw [wrap_in (by omega) (by omega)]; rfl
  by_cases hk : k ≤ w.length ∧ k < ld.length + 9
  case neg =>
    have hout : ∀ b : Bool, (k ≤ w.length → ¬ k < ld.length + 9) → True := fun _ _ => trivial
    by_cases hk1 : k ≤ w.length
    · have hk1' : ((k : Int) ≤ (w.length : Int)) = True := eq_true (by omega)
      have hk2' : ((k : Int) < ((ld.length + 9 : Nat) : Int)) = False := eq_false (by omega)
      repeat (first | refine qqm rfl ?_ | ((first | refine qqr ?_ | refine qqt ?_); simp only [SS, qx2, vun, simprocAttr, f7, f12, f16, hk1', h9, hk2', decide_true, decide_false, ff_6]))
      first | refine qqf ?_ ?_ | refine qqg ?_ ?_
      · exact k111.keep
      · simp only [packed, qv, Nat.reduceEqDiff, ↓reduceIte, ff_6]
    · have hk1' : ((k : Int) ≤ (w.length : Int)) = False := eq_false (by omega)
      repeat (first | refine qqm rfl ?_ | ((first | refine qqr ?_ | refine qqt ?_); simp only [SS, qx2, vun, simprocAttr, f7, f12, f16, hk1', decide_false, ff_6]))
      first | refine qqf ?_ ?_ | refine qqg ?_ ?_
      · exact k111.keep
      · simp only [packed, qv, Nat.reduceEqDiff, ↓reduceIte, ff_6]
  obtain ⟨hk1, hk2⟩ := hk
  have hk1' : ((k : Int) ≤ (w.length : Int)) = True := eq_true (by omega)
  have hk2' : ((k : Int) < ((ld.length + 9 : Nat) : Int)) = True := eq_true (by omega)
  repeat (first | refine qqm rfl ?_ | ((first | refine qqr ?_ | refine qqt ?_); simp only [SS, qx2, vun, simprocAttr, f7, f12, f14, f15, f16, hk1', h9, hk2', decide_true, ff_6]))
  refine AtCall.by (close_gives (deep := 12) (most := 400) hw11 ne11 ok hgl hlen hL hLx (fun z hz => (hLg z hz).1) (by omega) (by omega) (by omega) (fun z hz => by have := (hLg z hz).2.2; omega)) ?_
  rintro va n12 H12 k12 ⟨b, S, hclo, hres⟩
  rw [hcl] at hclo
  have hw12 := k12.wf hw11
  have hle12 := k12.le
  have ne12 := ne11.mono hw11 k12
  have hxd12 := (k12.keep xd (by omega)).trans hxd11
  have k112 := k111.trans k12
  rcases hres with ⟨rfl, rfl⟩ | ⟨rfl, hS, hSm, hSd, hSg, pR, R, hR, rfl, hpR, hxR⟩
  · simp only [SS, qx2, vun, simprocAttr, List.toList_toArray, ff_6]
    repeat (first | refine qqm rfl ?_ | ((first | refine qqr ?_ | refine qqt ?_); simp only [SS, qx2, vun, simprocAttr, ff_6]))
    first | refine qqf ?_ ?_ | refine qqg ?_ ?_
    · exact k112.keep
    · simp only [packed, qv, Nat.reduceEqDiff, ↓reduceIte, ff_6]
  have hfu := hclo.spec.1 rfl
  obtain ⟨c, hcL, hcr, hcA⟩ := hLa hk1
  obtain ⟨c', hc1, hc2, hc3⟩ := hcA.run
  have hcR : c' ∈ R.map (·.1) := by
    obtain ⟨z, hz, e⟩ := List.mem_map.1 ((hfu.mem c').2 (hc1 _ (.base hcL)))
    refine List.mem_map.2 ⟨z, ?_, e⟩
    rw [hR, List.mem_filter]
    refine ⟨hz, ?_⟩
    have : idle g z.1 = false := by
      rw [e]
      unfold idle
      refine decide_eq_false ?_
      rcases hc3 with ⟨_, h⟩ | ⟨t, u', _, h0, h, _⟩ <;> omega
    rw [this]; rfl
  have hmR : ∀ x ∈ R, x ∈ S := fun x hx => by
    rw [hR, List.mem_filter] at hx
    exact hx.1
  have hRg : ∀ z ∈ R, GC g z.1 ∧ AltOK g z.1 := fun z hz => by
    have hrz := (hfu.mem z.1).1 (List.mem_map.2 ⟨z, hmR z hz, rfl⟩)
    refine ⟨hSg z (hmR z hz), hrz.alt (P := fun a => 0 ≤ a ∧ a < g.rules.length) fun c hc => ?_⟩
    obtain ⟨q, hq, rfl⟩ := List.mem_map.1 hc
    exact (hLg q hq).2.1
  have hRs : Srt R := by rw [hR]; exact List.Pairwise.filter _ hS
  have hRl : R.length ≤ 400 := by rw [hR]; exact Nat.le_trans (List.length_filter_le _ _) hSm
  have hcr' : c'.alt = (r : Int) := hc2.trans hcr
  simp only [SS, qx2, vun, simprocAttr, List.toList_toArray, ff_6]
  repeat (first | refine qqm rfl ?_ | ((first | refine qqr ?_ | refine qqt ?_); simp only [SS, qx2, vun, simprocAttr, ff_6]))
  refine AtCall.by (alts_gives hw12 hpR hRs (fun x hx => by have := (hRg x hx).2; unfold AltOK at this; omega) (by omega)) ?_
  rintro _ n13 H13 k13' ⟨pA, RR, rfl, hRR, hRA⟩
  have hw13 := k13'.wf hw12
  have hle13 := k13'.le
  have hxd13 := (k13'.keep xd (by omega)).trans hxd12
  have hRRl : RR.length ≤ 65536 := by
    rcases rise_len (N := 48) RR 0 hRA.1 (fun a ha => by
      have := (hRA.2 a).1 ha
      rw [List.map_map] at this
      obtain ⟨z, hz, rfl⟩ := List.mem_map.1 this
      have h := (hRg z hz).2
      unfold AltOK at h
      exact ⟨h.1, by show z.1.alt < 48; omega⟩) with h | h
    · omega
    · rw [h]; simp
  have hcnt : RR.count ((r : Nat) : Int) = 1 := rise_count hRA.1 ((hRA.2 _).2 (by
    rw [← hcr']; exact List.mem_map.2 ⟨c', hcR, rfl⟩))
  simp only [SS, qx2, vun, simprocAttr, f1, f2, hxd13, hatl, hda, ff_6]
  refine AtCall.by (countA_gives hw13 hRR hRRl) ?_
  rintro _ n14 H14 k14' rfl
  rw [hcnt]
  have hw14 := k14'.wf hw13
  have hle14 := k14'.le
  have k1214 := k13'.trans k14'
  have ne14 := ne12.mono hw12 k1214
  have hpR14 := hpR.mono hw12 k1214
  have hxR14 : ∀ z ∈ R, XC H14 z := fun z hz => (hxR z hz).keep (Kp.spk hw12 k1214)
  have hxd14 := (k1214.keep xd (by omega)).trans hxd12
  have k114 := k112.trans k1214
  have kA : Kp n10 H10 n14 H14 := k11.trans (k12.trans k1214)
  have h11 : (((1 : Nat) : Int) = 1) = True := eq_true rfl
  simp only [SS, qx2, vun, simprocAttr, h11, decide_true, Bool.not_true, ff_6]
  repeat refine qqn rfl ?_
  refine qqm rfl ?_
  apply WK.skipSeq; apply WK.seq
  refine WK.frame (fun f => f 1 = .slice (some ⟨xd, kd, none⟩) d.length d.length ∧ f 2 = .int .i64 (at_ : Nat) ∧ f 3 = .pointer (some ⟨n, 0, none⟩) ∧ f 7 = .slice py w.length w.length ∧ f 12 = .slice pl ld.length ld.length ∧ f 14 = .pointer (some ⟨nn, 0, none⟩) ∧ f 16 = .int .i64 (k : Nat) ∧ f 17 = .slice pR R.length R.length) ⟨f1, f2, f3, f7, f12, f14, f16, rfl⟩ ?_
  clear f1 f2 f3 f7 f12 f14 f15 f16 f
  rintro f ⟨f1, f2, f3, f7, f12, f14, f16, f17⟩
  by_cases hke : k = w.length
  · have hke' : ((k : Int) = (w.length : Int)) = True := eq_true (by omega)
    have hnx : nextL g c' = -1 := by
      rcases hc3 with ⟨_, h⟩ | ⟨t, u', e, _⟩
      · exact h
      · rw [hke, List.drop_length] at e; cases e
    obtain ⟨zc, hzc, ezc⟩ := List.mem_map.1 hcR
    obtain ⟨js, hjs, rfl⟩ := List.getElem_of_mem hzc
    clear ih
    repeat (first | refine qqm rfl ?_ | ((first | refine qqr ?_ | refine qqt ?_); simp only [SS, qx2, vun, simprocAttr, f7, f16, f17, hke', decide_true, ff_6]))
    refine WK.loop (fun kk s => ∃ j : Nat, Kp n14 H14 s.n s.H ∧ s.f 1 = .slice (some ⟨xd, kd, none⟩) d.length d.length ∧ s.f 2 = .int .i64 (at_ : Nat) ∧ s.f 14 = .pointer (some ⟨nn, 0, none⟩) ∧ s.f 113 = .slice pR R.length R.length ∧ s.f 114 = .int .i64 (R.length : Nat) ∧ s.f 115 = .int .i64 (j : Nat) ∧ j ≤ js ∧ kk = js - j) js ?_ ?_
    · exact ⟨0, Kp.refl _ _, f1, f2, f14, rfl, rfl, rfl, Nat.zero_le _, rfl⟩
    clear f1 f2 f3 f7 f12 f14 f16 f17
    rintro kk ⟨f, n15, H15⟩ ⟨j, k15', f1, f2, f14, f113, f114, f115, hjl, rfl⟩ ih
    simp only at k15' f1 f2 f14 f113 f114 f115 ih
    have hw15 := k15'.wf hw14
    have hle15 := k15'.le
    have hxd15 := (k15'.keep xd (by omega)).trans hxd14
    have hjR : j < R.length := by omega
    have hjw : IntKind.i64.wrap ((j : Int) + 1) = ((j + 1 : Nat) : Int) := by rw [wrap_in (by omega) (by omega)]; rfl
    have hmem := List.getElem_mem hjR
    obtain ⟨u2, k02, cs2, ty2, own2, z1, z2, z3, z4⟩ := (hpR14.mono hw14 k15').at ccell_len hjR
    have kn := Kp.new n15 H15 (.cells (ccell R[j]) 47 true)
    have hnn := hset_at H15 n15 (.cells (ccell R[j]) 47 true)
    repeat (first | refine qqm rfl ?_ | ((first | refine qqr ?_ | refine qqt ?_); simp only [SS, qx2, vun, simprocAttr, f113, f114, f115, hjR, z1, z2, z3, z4, v1, v2, v5, v6, f14, hs4, hset_at, ff_6]))
    generalize hset H15 n15 (.cells (ccell R[j]) 47 true) = H16 at *
    have hw16 := kn.wf hw15
    refine AtCall.by (next_gives hw14 (k15'.trans kn) ne14 hi hgl hlen (hRg _ hmem).1.1.1 (fun r h0 hr => (hRg _ hmem).1.1.2 r h0 hr)) ?_
    rintro _ n17 H17 k17' rfl
    have hnn17 := (k17'.keep n15 (Nat.lt_succ_self _)).trans hnn
    have hxd17 := ((kn.trans k17').keep xd (by omega)).trans hxd15
    have kB := k15'.trans (kn.trans k17')
    have k117 := k114.trans kB
    by_cases hn1 : nextL g R[j].1 = -1
    · by_cases ha1 : R[j].1.alt = (r : Int)
      · have hn1' : (nextL g R[j].1 = -1) = True := eq_true hn1
        have ha1' : (R[j].1.alt = (r : Int)) = True := eq_true ha1
        simp only [SS, qx2, vun, simprocAttr, f1, f2, hn1', ha1', hnn17, hxd17, hatl, hda, v0, v5, decide_true, ff_6]
        repeat (first | refine qqm rfl ?_ | ((first | refine qqr ?_ | refine qqt ?_); simp only [SS, qx2, vun, simprocAttr, ff_6]))
        first | refine qqf ?_ ?_ | refine qqg ?_ ?_
        · exact k117.keep
        · simp only [packed, qv, Nat.reduceEqDiff, ↓reduceIte, ff_6]
      · have hn1' : (nextL g R[j].1 = -1) = True := eq_true hn1
        have ha1' : (R[j].1.alt = (r : Int)) = False := eq_false ha1
        have hjne : j ≠ js := fun h => ha1 (by subst h; rw [ezc]; exact hcr')
        simp only [SS, qx2, vun, simprocAttr, f1, f2, hn1', ha1', hnn17, hxd17, hatl, hda, v0, v5, decide_true, decide_false, ff_6]
        repeat (first | refine qqm rfl ?_ | ((first | refine qqr ?_ | refine qqt ?_); simp only [SS, qx2, vun, simprocAttr, f115, hjw, ff_6]))
        refine ih (js - (j + 1)) (by omega) _ ?_
        exact ⟨j + 1, kB, f1, f2, f14, f113, f114, rfl, by omega, rfl⟩
    · have hn1' : (nextL g R[j].1 = -1) = False := eq_false hn1
      have hjne : j ≠ js := fun h => hn1 (by subst h; rw [ezc]; exact hnx)
      simp only [SS, qx2, vun, simprocAttr, f1, f2, hn1', decide_false, ff_6]
      repeat (first | refine qqm rfl ?_ | ((first | refine qqr ?_ | refine qqt ?_); simp only [SS, qx2, vun, simprocAttr, f115, hjw, ff_6]))
      refine ih (js - (j + 1)) (by omega) _ ?_
      exact ⟨j + 1, kB, f1, f2, f14, f113, f114, rfl, by omega, rfl⟩
  · have hke' : ((k : Int) = (w.length : Int)) = False := eq_false (by omega)
    have hkw : k < w.length := by omega
    have hdk : w.drop k = w[k] :: w.drop (k + 1) := List.drop_eq_getElem_cons hkw
    obtain ⟨t, u', e, ht0, hnx, hAc'⟩ : ∃ t u', w.drop k = t :: u' ∧ 0 ≤ t ∧ nextL g c' = t ∧ Ac g (mvC c') u' := by
      rcases hc3 with ⟨h, _⟩ | h
      · rw [hdk] at h; cases h
      · exact h
    rw [hdk] at e
    obtain ⟨rfl, rfl⟩ := List.cons.inj e
    have hpy14 := ((hpy10.mono hw10 kA)).ra
    obtain ⟨uy, ky, cy, ty', oy, e0, hzy, ey⟩ := hpy14.at hkw
    subst e0
    have hkw' : IntKind.i64.wrap ((k : Int) + 1) = ((k + 1 : Nat) : Int) := by rw [wrap_in (by omega) (by omega)]; rfl
    generalize hwk : w[k] = t at *
    repeat (first | refine qqm rfl ?_ | ((first | refine qqr ?_ | refine qqt ?_); simp only [SS, qx2, vun, simprocAttr, f7, f14, f16, f17, hke', hkw, hzy, ey, decide_false, ff_6]))
    refine AtCall.by (move_gives hw14 ne14 ok hpR14 hxR14 (fun z hz => (hRg z hz).1) (by omega) (fun z hz => by have := hSd z (hmR z hz); omega)) ?_
    rintro _ n15 H15 k15' ⟨pM, M, rfl, hM, hMm, hMx⟩
    have hMl : M.length ≤ 400 := by
      have h1 : M.length = (M.map (·.1)).length := (List.length_map _).symm
      rw [h1, hMm]
      exact Nat.le_trans moveL_len (by rw [List.length_map]; omega)
    have hMg : ∀ z ∈ M, GC g z.1 ∧ AltOK g z.1 ∧ z.1.stack.length ≤ 1000 := fun z hz => by
      have h1 : z.1 ∈ moveL g t (R.map (·.1)) := by rw [← hMm]; exact List.mem_map.2 ⟨z, hz, rfl⟩
      obtain ⟨dd, hd, e, h0, hn⟩ := moveL_at h1
      obtain ⟨y, hy, rfl⟩ := List.mem_map.1 hd
      rw [e]
      exact ⟨mvC_gc (hRg y hy).1 h0 hn, (hRg y hy).2, by have := hSd y (hmR y hy); show y.1.stack.length ≤ 1000; omega⟩
    have hMc : mvC c' ∈ M.map (·.1) := by
      rw [hMm]
      unfold moveL
      refine List.mem_map.2 ⟨c', ?_, rfl⟩
      rw [List.mem_filter]
      exact ⟨hcR, by simp [ht0, hnx]⟩
    simp only [SS, qx2, vun, simprocAttr, ff_6]
    repeat (first | refine qqm rfl ?_ | ((first | refine qqr ?_ | refine qqt ?_); simp only [SS, qx2, vun, simprocAttr, f16, hkw', ff_6]))
    refine ih (w.length + 1 - (k + 1)) (by omega) _ ?_
    exact ⟨k + 1, pM, M, kA.trans k15', f1, f2, f3, f7, f12, f14, rfl, rfl, by omega, hM, hMx, by omega, hMg, fun _ => ⟨mvC c', hMc, hcr', hAc'⟩, rfl⟩
end Go.Proofs.Ytfbdababcdfjfaa

namespace Go.Proofs.Ytfbdababcdfjfaa
open Go.AM
set_option maxRecDepth 100000
theorem und_22 : Try.prog.underlying 22 = some (.slice 9) := by kernel_rfl
theorem und_23 : Try.prog.underlying 23 = some (.slice 65) := by kernel_rfl
theorem und_26 : Try.prog.underlying 26 = some (.slice 3) := by kernel_rfl
theorem und_25 : ∃ f1 f2 f3 : Field, Try.prog.underlying 25 = some (.struct #[f1, f2, f3]) ∧ f1.type = 22 ∧ f1.offset = 0 ∧ f2.type = 22 ∧ f2.offset = 1 ∧ f3.type = 23 ∧ f3.offset = 2 :=
 ⟨{ name := "Terms", type := 22, offset := 0, embedded := false, tag := "", pkgPath := "", byteOffset := 0 }, { name := "Vars", type := 22, offset := 1, embedded := false, tag := "", pkgPath := "", byteOffset := 24 },
  { name := "Rules", type := 23, offset := 2, embedded := false, tag := "", pkgPath := "", byteOffset := 48 }, by kernel_rfl, rfl, rfl, rfl, rfl, rfl, rfl⟩
theorem und_65 : ∃ f1 f2 f3 : Field, Try.prog.underlying 65 = some (.struct #[f1, f2, f3]) ∧ f1.type = 3 ∧ f1.offset = 0 ∧ f2.type = 26 ∧ f2.offset = 1 ∧ f3.type = 63 ∧ f3.offset = 2 :=
 ⟨{ name := "Left", type := 3, offset := 0, embedded := false, tag := "", pkgPath := "", byteOffset := 0 }, { name := "Right", type := 26, offset := 1, embedded := false, tag := "", pkgPath := "", byteOffset := 8 },
  { name := "Weight", type := 63, offset := 2, embedded := false, tag := "", pkgPath := "", byteOffset := 32 }, by kernel_rfl, rfl, rfl, rfl, rfl, rfl, rfl⟩
theorem gramT : GramT Try.prog 25 65 3 9 22 23 26 63 := ⟨und_25, und_65, und_3, und_9, und_22, und_23, und_26, und_63, csz_3, csz_9, csz_22, csz_23, csz_26, csz_63, csz_65, csz_25⟩
theorem own : ownKnob Try.prog.godebug = none := by kernel_rfl
theorem laid : laidOutB Try.prog = true := by kernel_rfl
theorem plain_all : ([25, 3, 26, 47].all fun t => plainT Try.prog 10 t && Try.prog.readableRec t && decide (t < Try.prog.types.size)) = true := by kernel_rfl
theorem plain_of {t : TypeId} (h : t ∈ [25, 3, 26, 47]) : plainT Try.prog 10 t = true ∧ Try.prog.readableRec t = true ∧ t < Try.prog.types.size := by
 have := List.all_eq_true.1 plain_all t h
 simp only [Bool.and_eq_true, decide_eq_true_eq] at this
 exact ⟨this.1.1, this.1.2, this.2⟩
variable {H : Heap}
end Go.Proofs.Ytfbdababcdfjfaa
