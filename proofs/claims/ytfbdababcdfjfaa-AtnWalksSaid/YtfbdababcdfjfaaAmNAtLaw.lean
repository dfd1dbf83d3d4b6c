/- A part of a proof. Its conditions: none. -/
import Derived.Test.YtfbdababcdfjfaaAmNAtWalkA
import Derived.Test.YtfbdababcdfjfaaAmNFacts
import Derived.Test.YtfbdababcdfjfaaAmC
set_option linter.all false
namespace Go.Proofs.Ytfbdababcdfjfaa
open Go.AM
set_option maxRecDepth 100000
theorem WK.frame {P : Program} {c : Code} {K : List Fk} {n : Nat} {H : Heap} {Q : AExit → St → Prop} {f0 : Fr} (R : Fr → Prop) (h0 : R f0) (h : ∀ f, R f → WK P c K ⟨f, n, H⟩ Q) : WK P c K ⟨f0, n, H⟩ Q := h f0 h0
def AltOK (g : Gram) (c : Cfg) : Prop := 0 ≤ c.alt ∧ c.alt < g.rules.length
set_option maxHeartbeats 64000000 in
theorem walks_gives {vg : Value} {g : Gram} {v zd zm : Int} {pw : Option Addr} {w : List Int} {n : Nat} {H : Heap} (hw : WF n H) (hg : RG H vg g) (wg : WG g) (hp : RS (Value.int .i64) H pw w) :
    Gives Try.prog 3 [vg, .int .i64 v, .slice pw w.length w.length, .int .i64 zd, .int .i64 zm] n H fun w _ _ => w = .bool true := by
  have hg0 := hg
  obtain ⟨pt, pv, pr, rfl, ht, hvs, hr⟩ := hg
  refine Gives.of orders ok3 (Nat.le_of_ble_eq_true rfl) ?_
  have v1 : ∀ s, vcells (.agg (ccell s).toArray) = ccell s := fun _ => rfl
  have v2 : ∀ s, (ccell s).all one = true := fun _ => rfl
  have v5 : ∀ s, (ccell s).length = 4 := fun _ => rfl
  have v6 : ∀ s, ((ccell s).drop 0).take 4 = ccell s := fun _ => rfl
  have hs4 : ∀ (a b c d : Value) (x : CA), AM.splice [a, b, c, d] 0 (ccell x) = ccell x := fun _ _ _ _ _ => rfl
  have g2 : ((gcells pt pv pr g).drop 0).take 3 = gcells pt pv pr g := rfl
  have g3 : (gcells pt pv pr g).length = 3 := rfl
  repeat refine qqn rfl ?_
  (refine qqr ?_; simp only [SS, qx2, vun, simprocAttr, abox, box_cells, box_one, ff_3])
  have k1 := Kp.new n H (.cells (gcells pt pv pr g) 25 true)
  have hG := hset_at H n (.cells (gcells pt pv pr g) 25 true)
  generalize hset H n (.cells (gcells pt pv pr g) 25 true) = H1 at *
  have hw1 := k1.wf hw
  have hg1 : RG H1 (.agg (gcells pt pv pr g).toArray) g := hg0.mono hw k1
  repeat (first | refine qqm rfl ?_ | ((first | refine qqr ?_ | refine qqt ?_); simp only [SS, qx2, vun, simprocAttr, ff_3]))
  refine AtCall.by (alive_gives _ _) ?_
  rintro _ n2 H2 k2 ⟨rfl, hn2, hH2⟩
  subst hn2
  obtain rfl := hH2.symm
  simp only [SS, qx2, vun, simprocAttr, ff_3]
  repeat (first | refine qqm rfl ?_ | ((first | refine qqr ?_ | refine qqt ?_); simp only [SS, qx2, vun, simprocAttr, hG, g2, g3, ff_3]))
  refine AtCall.by (whole12_gives hw1 hg1 wg) ?_
  rintro _ n3 H3 k3 ⟨t, rfl, ht0⟩
  have hw3 := k3.wf hw1
  have hle3 := k3.le
  have k13 := k1.trans k3
  have hG3 := (k3.keep n (by omega)).trans hG
  have hg3' := hg0.mono hw k13
  rcases ht0 with rfl | ⟨rfl, okx, hfew, hall⟩
  · simp only [SS, qx2, vun, simprocAttr, decide_true, ff_3]
    repeat (first | refine qqm rfl ?_ | ((first | refine qqr ?_ | refine qqt ?_); simp only [SS, qx2, vun, simprocAttr, ff_3]))
    first | refine qqf ?_ ?_ | refine qqg ?_ ?_
    · exact k13.keep
    · simp only [packed, qv, Nat.reduceEqDiff, ↓reduceIte, ff_3]
  have ok := okx.toRightOK
  have hi := ok.inG
  unfold few at hfew
  simp only [Bool.and_eq_true, decide_eq_true_eq, List.all_eq_true] at hfew
  obtain ⟨⟨⟨fw1, fw2⟩, fw3⟩, fw4⟩ := hfew
  have hgl : g.terms.length ≤ 64 ∧ g.vars.length ≤ 64 := ⟨by omega, by omega⟩
  have hlen : ∀ r ∈ g.rules, r.right.length ≤ 24 := fun r hr => by have := fw4 r hr; omega
  have h10 : ((1 : Int) = 0) = False := eq_false (by decide)
  by_cases hw8 : 8 < w.length
  · have hw8' : ((8 : Int) < (w.length : Int)) = True := eq_true (by omega)
    simp only [SS, qx2, vun, simprocAttr, h10, hw8', decide_true, decide_false, ff_3]
    repeat (first | refine qqm rfl ?_ | ((first | refine qqr ?_ | refine qqt ?_); simp only [SS, qx2, vun, simprocAttr, ff_3]))
    first | refine qqf ?_ ?_ | refine qqg ?_ ?_
    · exact k13.keep
    · simp only [packed, qv, Nat.reduceEqDiff, ↓reduceIte, ff_3]
  have hw8' : ((8 : Int) < (w.length : Int)) = False := eq_false (by omega)
  obtain ⟨dp, hdp, hd3⟩ := low_mask zd 3 (by omega)
  obtain ⟨ms, hms, hm63⟩ := low_mask zm 63 (by omega)
  have hd3' : IntKind.i64.wrap ((BitVec.ofInt IntKind.i64.bits zd &&& BitVec.ofInt IntKind.i64.bits 3).toNat : Int) = (dp : Int) := hd3
  have hm63' : IntKind.i64.wrap ((BitVec.ofInt IntKind.i64.bits zm &&& BitVec.ofInt IntKind.i64.bits 63).toNat : Int) = (ms : Int) := hm63
  simp only [SS, qx2, vun, simprocAttr, h10, hw8', decide_false, ff_3]
  repeat (first | refine qqm rfl ?_ | ((first | refine qqr ?_ | refine qqt ?_); simp only [SS, qx2, vun, simprocAttr, hG3, g2, g3, hd3', hm63', ff_3]))
  refine AtCall.by (new_gives hw3 hg3' wg ok) ?_
  rintro _ n4 H4 k4 ⟨nn, ot, ov, or1, cc, cl, rfl, ne, hcl⟩
  have hw4 := k4.wf hw3
  have hle4 := k4.le
  have hG4 := (k4.keep n (by omega)).trans hG3
  have k14 := k13.trans k4
  simp only [SS, qx2, vun, simprocAttr, ff_3]
  repeat (first | refine qqm rfl ?_ | ((first | refine qqr ?_ | refine qqt ?_); simp only [SS, qx2, vun, simprocAttr, ff_3]))
  refine AtCall.by (start_gives hw4 ne ok) ?_
  rintro _ n5 H5 k5 ⟨p5, rfl, hp5⟩
  have hw5 := k5.wf hw4
  have hle5 := k5.le
  have hG5 := (k5.keep n (by omega)).trans hG4
  have k15 := k14.trans k5
  simp only [SS, qx2, vun, simprocAttr, hG5, g2, g3, ff_3]
  refine AtCall.by (start14_gives hw5 (hg0.mono hw k15) ok) ?_
  rintro _ n6 H6 k6 ⟨y6, L6, rfl, hy6, hLm6, hLl6, hLx6⟩
  have hw6 := k6.wf hw5
  have hle6 := k6.le
  have k16 := k15.trans k6
  have hG6 := (k6.keep n (by omega)).trans hG5
  have hp6 := hp5.mono hw5 k6
  have ne6 := (ne.mono hw4 k5).mono hw5 k6
  have s1 := startL_mem g v
  have s2 := Nat.le_trans (startL_len g v) fw3
  have hq6 : RN 4 ccell H6 (some ⟨y6, 0, none⟩) L6 := .inr ⟨y6, 0, _, _, true, rfl, hy6, by rw [fm_len ccell_len]; omega, by rw [List.drop_zero]; exact List.take_of_length_le (by rw [fm_len ccell_len]; omega)⟩
  simp only [SS, qx2, vun, simprocAttr, ff_3]
  repeat (first | refine qqm rfl ?_ | ((first | refine qqr ?_ | refine qqt ?_); simp only [SS, qx2, vun, simprocAttr, ff_3]))
  refine AtCall.by (same12_gives hw6 hp6 hq6 (fun z hz => .inl ⟨(s1 z hz).1, (s1 z hz).2.1⟩) (fun z hz => .inl ⟨(hLx6 z hz).2, (hLx6 z hz).1⟩) (fun z hz => by rw [(s1 z hz).2.1]; exact Nat.zero_le _) (fun z hz => by rw [(hLx6 z hz).1]; exact Nat.zero_le _) (by omega)) ?_
  rintro _ n7 H7 k7 rfl
  have hw7 := k7.wf hw6
  have hle7 := k7.le
  have k17 := k16.trans k7
  have hG7 := (k7.keep n (by omega)).trans hG6
  have ne7 := ne6.mono hw6 k7
  have hyes : ((startL g v).map (·.1) = L6.map (·.1)) = True := eq_true hLm6.symm
  simp only [SS, qx2, vun, simprocAttr, hyes, decide_true, Bool.not_true, ff_3]
  repeat refine qqn rfl ?_
  refine qqm rfl ?_
  apply WK.skipSeq; apply WK.seq; apply WK.seq
  refine WK.frame (fun f => f 2 = .slice pw w.length w.length ∧ f 3 = .int .i64 (dp : Nat) ∧ f 4 = .int .i64 (ms : Nat) ∧ f 5 = .pointer (some ⟨n, 0, none⟩) ∧ f 11 = .pointer (some ⟨nn, 0, none⟩) ∧ f 12 = .slice p5 (startL g v).length (startL g v).length ∧ f 13 = lv y6 L6) ⟨rfl, rfl, rfl, rfl, rfl, rfl, rfl⟩ ?_
  rintro f ⟨f2, f3, f4, f5, f11, f12, f13⟩
  refine WK.cut (fun s => ∃ yw, Kp n7 H7 s.n s.H ∧ s.f 3 = .int .i64 (dp : Nat) ∧ s.f 4 = .int .i64 (ms : Nat) ∧ s.f 5 = .pointer (some ⟨n, 0, none⟩) ∧ s.f 11 = .pointer (some ⟨nn, 0, none⟩) ∧ s.f 12 = .slice p5 (startL g v).length (startL g v).length ∧ s.f 13 = lv y6 L6 ∧
      s.f 52 = .slice (some ⟨yw, 0, none⟩) (w.length + 1) (w.length + 1) ∧ s.f 53 = .int .i64 ((w.length + 1 : Nat) : Int) ∧ s.f 54 = .int .i64 ((0 : Nat) : Int) ∧ s.H yw = .cells ((w ++ [-1]).map (Value.int .i64)) 3 true ∧ yw < s.n) ?_ ?_
  · have hwm : (w ++ [-1]).map (Value.int .i64) = w.map (Value.int .i64) ++ [.int .i64 (-1)] := by rw [List.map_append]; rfl
    rw [hwm]
    have hp7 := sp_row (hp.mono hw k17)
    have c1 : [n7 + 1 + 1].contains (n7 + 1) = false := by simp
    have hwl : (w.map (Value.int .i64)).length = w.length := List.length_map _
    have htk : (w.map (Value.int .i64)).take w.length = w.map (Value.int .i64) := List.take_of_length_le (by omega)
    have b1 : w.length + 1 ≤ bigN := by unfold bigN; omega
    have b2 : w.length ≤ bigN := by unfold bigN; omega
    have kq : ∀ A B C D, Kp n7 H7 (n7 + 1 + 1 + 1 + 1) (hset (hset (hset (hset (hset (hset H7 n7 A) n7 .dead) (n7 + 1) B) (n7 + 1 + 1) C) (n7 + 1) .dead) (n7 + 1 + 1 + 1) D) := fun A B C D => (((((Kp.new n7 H7 A).set (x := n7) .dead (by omega) (by omega)).trans (Kp.new (n7 + 1) _ B)).trans (Kp.new (n7 + 1 + 1) _ C)).set (x := n7 + 1) .dead (by omega) (by omega)).trans (Kp.new (n7 + 1 + 1 + 1) _ D)
    have kq2 : ∀ B C D, Kp n7 H7 (n7 + 1 + 1 + 1 + 1) (hset (hset (hset (hset (hset H7 n7 .dead) (n7 + 1) B) (n7 + 1 + 1) C) (n7 + 1) .dead) (n7 + 1 + 1 + 1) D) := fun B C D => ((((Kp.new n7 H7 .dead).trans (Kp.new (n7 + 1) _ B)).trans (Kp.new (n7 + 1 + 1) _ C)).set (x := n7 + 1) .dead (by omega) (by omega)).trans (Kp.new (n7 + 1 + 1 + 1) _ D)
    rcases hp7 with ⟨h1, h2⟩ | ⟨x, k, cs, ty, own, h1, h2, h3, h4⟩
    · subst h1 h2
      have hnc : ([] : List Nat).contains n7 = false := rfl
      have m0 : ∀ A B C, hset (hset (hset (hset H7 n7 A) n7 .dead) (n7 + 1) B) (n7 + 1 + 1) C (n7 + 1) = B := fun A B C => (hset_ne _ _ _ (by omega)).trans (hset_at _ _ _)
      have m1 : ∀ A B C, hset (hset (hset H7 n7 A) (n7 + 1) B) (n7 + 1 + 1) C (n7 + 1) = B := fun A B C => (hset_ne _ _ _ (by omega)).trans (hset_at _ _ _)
      have b0 : 0 + 1 ≤ bigN := by unfold bigN; omega
      (refine qqr ?_; simp only [SS, qx2, vun, simprocAttr, f2, c1, b0, b1, hnc, m0, m1, hset_at, hset_hset, List.length_nil, List.map_nil, List.nil_append, List.take_nil, List.drop_nil, Nat.zero_mul, Nat.zero_add, Nat.le_refl, List.take_zero, ff_3])
      exact WK.skipNil ⟨rfl, n7 + 1 + 1 + 1, kq2 _ _ _, f3, f4, f5, f11, f12, f13, rfl, rfl, rfl, hset_at _ _ _, Nat.lt_succ_self _⟩
    · subst h1
      have hxn := live_lt hw7 (live_of h2)
      have q2 : ∀ o, hset H7 n7 o x = _ := fun o => (hset_ne _ _ _ (by omega)).trans h2
      have hcx : [x].contains n7 = false := by simp; omega
      have m1 : ∀ A B C, hset (hset (hset H7 n7 A) (n7 + 1) B) (n7 + 1 + 1) C (n7 + 1) = B := fun A B C => (hset_ne _ _ _ (by omega)).trans (hset_at _ _ _)
      (refine qqr ?_; simp only [SS, qx2, vun, simprocAttr, f2, q2, h3, h4, hcx, c1, b1, b2, m1, hwl, htk, hset_at, Nat.zero_mul, Nat.mul_one, Nat.zero_add, List.drop_zero, List.take_zero, List.nil_append, Nat.le_refl, ff_3])
      exact WK.skipNil ⟨rfl, n7 + 1 + 1 + 1, kq2 _ _ _, f3, f4, f5, f11, f12, f13, rfl, rfl, rfl, hset_at _ _ _, Nat.lt_succ_self _⟩
  clear f2 f3 f4 f5 f11 f12 f13
  rintro ⟨f, n8, H8⟩ ⟨yw, k8, f3, f4, f5, f11, f12, f13, f52, f53, f54, hyw, hywn⟩
  simp only at k8 f3 f4 f5 f11 f12 f13 f52 f53 f54 hyw hywn
  have hw8n := k8.wf hw7
  have hle8 := k8.le
  have k18 := k17.trans k8
  have hG8 := (k8.keep n (by omega)).trans hG7
  have ne8 := ne7.mono hw7 k8
  have hp8 := (hp6.mono hw6 k7).mono hw7 k8
  have hq8 := (hq6.mono hw6 k7).mono hw7 k8
  have hwlen : (w ++ [-1]).length = w.length + 1 := by simp
  have hwml : ((w ++ [-1]).map (Value.int .i64)).length = w.length + 1 := by rw [List.length_map, hwlen]
  have hG8' : RG H8 (.agg (gcells pt pv pr g).toArray) g := hg0.mono hw k18
  generalize hTW : w ++ [-1] = tw at *
  repeat (first | refine qqm rfl ?_ | ((first | refine qqr ?_ | refine qqt ?_); simp only [SS, qx2, vun, simprocAttr, ff_3]))
  refine WK.loop (fun kk s => ∃ (i : Nat) (p q : Option Addr) (L M : List CA), Kp n8 H8 s.n s.H ∧ s.f 3 = .int .i64 (dp : Nat) ∧ s.f 4 = .int .i64 (ms : Nat) ∧ s.f 5 = .pointer (some ⟨n, 0, none⟩) ∧ s.f 11 = .pointer (some ⟨nn, 0, none⟩) ∧ s.f 12 = .slice p L.length L.length ∧ s.f 13 = .slice q M.length M.length ∧ s.f 52 = .slice (some ⟨yw, 0, none⟩) (w.length + 1) (w.length + 1) ∧ s.f 53 = .int .i64 ((w.length + 1 : Nat) : Int) ∧ s.f 54 = .int .i64 (i : Nat) ∧ i ≤ w.length + 1 ∧
      RN 4 ccell s.H p L ∧ RN 4 ccell s.H q M ∧ (∀ z ∈ L, XC s.H z) ∧ (∀ z ∈ M, XD s.H z) ∧ L.map (·.1) = M.map (·.1) ∧ L.length ≤ 100 ∧ (∀ z ∈ L, GC g z.1 ∧ AltOK g z.1 ∧ z.1.stack.length ≤ 100) ∧ kk = w.length + 1 - i) (w.length + 1) ?_ ?_
  · refine ⟨0, p5, some ⟨y6, 0, none⟩, startL g v, L6, Kp.refl _ _, f3, f4, f5, f11, f12, f13, f52, f53, f54, Nat.zero_le _, hp8, hq8, fun z hz => ⟨.inl ⟨(s1 z hz).1, (s1 z hz).2.1⟩, fun z' k e => by rw [(s1 z hz).1] at e; cases e⟩, fun z hz => ⟨.inl ⟨(hLx6 z hz).2, (hLx6 z hz).1⟩, fun z' k e => by rw [(hLx6 z hz).2] at e; cases e⟩, hLm6.symm, by omega, fun z hz => ⟨(s1 z hz).2.2, ?_, by rw [(s1 z hz).2.1]; exact Nat.zero_le _⟩, rfl⟩
    have hz' : z.1 ∈ (startL g v).map (·.1) := List.mem_map.2 ⟨z, hz, rfl⟩
    rw [startL_map ok] at hz'
    obtain ⟨r, hr, e⟩ := List.mem_map.1 hz'
    unfold ruleIx at hr
    have hr1 := List.mem_range.1 (List.mem_filter.1 hr).1
    rw [← e]
    exact ⟨by show (0 : Int) ≤ (r : Int); omega, by show (r : Int) < _; omega⟩
  clear f3 f4 f5 f11 f12 f13 f52 f53 f54
  rintro kk ⟨f, n9, H9⟩ ⟨i, p, q, L, M, k9, f3, f4, f5, f11, f12, f13, f52, f53, f54, hil, hL, hM, hLx, hMx, hLM, hLl, hLg, rfl⟩ ih
  simp only at k9 f3 f4 f5 f11 f12 f13 f52 f53 f54 hL hM hLx hMx ih
  have hw9 := k9.wf hw8n
  have hle9 := k9.le
  have k19 := k18.trans k9
  have hG9 := (k9.keep n (by omega)).trans hG8
  have ne9 := ne8.mono hw8n k9
  have hyw9 := (k9.keep yw hywn).trans hyw
  by_cases hlt : i < w.length + 1
  · have hiw : IntKind.i64.wrap ((i : Int) + 1) = ((i + 1 : Nat) : Int) := by rw [wrap_in (by omega) (by omega)]; rfl
    have hti : i < tw.length := by rw [hwlen]; exact hlt
    have hta := int_at hti
    generalize tw[i] = t at *
    have hlt' : ((i : Int) < ((w.length + 1 : Nat) : Int)) = True := eq_true (by omega)
    have hMl : M.length = L.length := by have := congrArg List.length hLM; simpa using this.symm
    have hMg : ∀ z ∈ M, GC g z.1 ∧ z.1.stack.length ≤ 100 := fun z hz => by
      have h1 : z.1 ∈ L.map (·.1) := by rw [hLM]; exact List.mem_map.2 ⟨z, hz, rfl⟩
      obtain ⟨y, hy, e⟩ := List.mem_map.1 h1
      rw [← e]; exact ⟨(hLg y hy).1, (hLg y hy).2.2⟩
    repeat (first | refine qqm rfl ?_ | ((first | refine qqr ?_ | refine qqt ?_); simp only [SS, qx2, vun, simprocAttr, f3, f4, f5, f11, f12, f13, f52, f53, f54, hlt, hlt', hyw9, hwml, hta, Nat.zero_add, Nat.mul_one, ff_3]))
    refine AtCall.by (close_gives (deep := dp) (most := ms) hw9 ne9 ok hgl hlen hL hLx (fun z hz => (hLg z hz).1) (by omega) (by omega) (by omega) (fun z hz => by have := (hLg z hz).2.2; omega)) ?_
    rintro va n10 H10 k10 ⟨b, S, hclo, hres⟩
    rw [hcl] at hclo
    have hw10 := k10.wf hw9
    have hle10 := k10.le
    have hG10 := (k10.keep n (by omega)).trans hG9
    obtain ⟨pa0, ma0, ta0, hva⟩ : ∃ pa0 ma0 ta0, va = .tuple #[.slice pa0 ma0 ma0, .bool ta0] := by
      rcases hres with ⟨_, h⟩ | ⟨_, _, _, _, _, p', R, _, h, _⟩
      · exact ⟨none, 0, false, h⟩
      · exact ⟨p', R.length, true, h⟩
    subst hva
    have hG10' : RG H10 (.agg (gcells pt pv pr g).toArray) g := hg0.mono hw (k19.trans k10)
    simp only [SS, qx2, vun, simprocAttr, List.toList_toArray, ff_3]
    repeat (first | refine qqm rfl ?_ | ((first | refine qqr ?_ | refine qqt ?_); simp only [SS, qx2, vun, simprocAttr, f3, f4, f5, f13, hG10, g2, g3, ff_3]))
    refine AtCall.by (close14_gives (deep := dp) (most := ms) hw10 hG10' ok (hM.mono hw9 k10) (fun z hz => (hMx z hz).kp hw9 k10) (fun z hz => (hMg z hz).1) (by omega) (by omega) (by omega) (fun z hz => by have := (hMg z hz).2; omega)) ?_
    rintro vb n11 H11 k11 hc14
    have hw11 := k11.wf hw10
    have hle11 := k11.le
    rw [← hLM] at hc14
    obtain ⟨t1, pa, pb, A, B, e1, e2, hAB⟩ := both_of hw10 k11 hclo hres hc14
    subst e2
    simp only [Value.tuple.injEq, Array.mk.injEq, List.cons.injEq, Value.slice.injEq, Value.bool.injEq, and_true] at e1
    obtain ⟨⟨rfl, rfl, _⟩, rfl⟩ := e1
    have k911 := k10.trans k11
    have k21 := k19.trans k911
    have hG11 := (k911.keep n (by omega)).trans hG9
    have ne11 := ne9.mono hw9 k911
    have hBl := hAB.lenB
    simp only [SS, qx2, vun, simprocAttr, List.toList_toArray, ff_3]
    repeat refine qqn rfl ?_
    refine WK.frame (fun f => f 3 = .int .i64 (dp : Nat) ∧ f 4 = .int .i64 (ms : Nat) ∧ f 5 = .pointer (some ⟨n, 0, none⟩) ∧ f 11 = .pointer (some ⟨nn, 0, none⟩) ∧ f 15 = .int .i64 t ∧ f 16 = .slice pa0 A.length A.length ∧ f 17 = .bool ta0 ∧ f 18 = .slice pb B.length B.length ∧ f 19 = .bool ta0 ∧ f 52 = .slice (some ⟨yw, 0, none⟩) (w.length + 1) (w.length + 1) ∧ f 53 = .int .i64 ((w.length + 1 : Nat) : Int) ∧ f 54 = .int .i64 (i : Nat)) ⟨f3, f4, f5, f11, rfl, rfl, rfl, rfl, rfl, f52, f53, f54⟩ ?_
    clear f3 f4 f5 f11 f12 f13 f52 f53 f54 f
    rintro f ⟨f3, f4, f5, f11, f15, f16, f17, f18, f19, f52, f53, f54⟩
    have hAr : ∀ z ∈ A, GC g z.1 ∧ AltOK g z.1 := fun z hz => by
      have hr := hAB.rch z hz
      refine ⟨hr.gc fun c hc => ?_, hr.alt (P := fun a => 0 ≤ a ∧ a < g.rules.length) fun c hc => ?_⟩
      · obtain ⟨q, hq, rfl⟩ := List.mem_map.1 hc
        exact (hLg q hq).1
      · obtain ⟨q, hq, rfl⟩ := List.mem_map.1 hc
        exact (hLg q hq).2.1
    have hAl : A.length ≤ 63 := Nat.le_trans hAB.len hms
    have hAs : ∀ z ∈ A, z.1.stack.length ≤ 3 := fun z hz => Nat.le_trans (hAB.dp z hz) hdp
    have hBs : ∀ z ∈ B, z.1.stack.length ≤ 3 := hAB.memB (P := fun c => c.stack.length ≤ 3) hAs
    have hBg : ∀ z ∈ B, GC g z.1 := hAB.memB fun z hz => (hAr z hz).1
    have hyes2 : (A.map (·.1) = B.map (·.1)) = True := eq_true hAB.eq
    (refine qqr ?_; simp only [SS, qx2, vun, simprocAttr, f16, f17, f18, f19, decide_true, beq_self_eq_true, Bool.not_true, ff_3])
    refine AtCall.by (same12_gives hw11 hAB.ra hAB.rb (fun z hz => (hAB.xa z hz).1) (fun z hz => (hAB.xb z hz).1) (fun z hz => by have := hAs z hz; omega) (fun z hz => by have := hBs z hz; omega) (by omega)) ?_
    rintro _ n12 H12 k12 rfl
    have hw12 := k12.wf hw11
    have hAB12 := hAB.mono hw11 k12
    simp only [SS, qx2, vun, simprocAttr, f16, f17, f18, f19, hyes2, decide_true, Bool.not_true, ff_3]
    refine AtCall.by (alts_gives hw12 hAB12.ra hAB12.srt (fun x hx => by have := (hAr x hx).2; unfold AltOK at this; omega) (by omega)) ?_
    rintro _ n13 H13 k13 ⟨pR, R, rfl, hR, hRA⟩
    have hw13 := k13.wf hw12
    have hAB13 := hAB12.mono hw12 k13
    simp only [SS, qx2, vun, simprocAttr, f18, ff_3]
    refine AtCall.by (alts14_gives hw13 hAB13.rb (by omega)) ?_
    rintro _ n14 H14 k14 ⟨pR2, R2, rfl, hR2, hRB, hR2l⟩
    have hw14 := k14.wf hw13
    have hAB14 := hAB13.mono hw13 k14
    have hRR : R = R2 := rise_eq hRA.1 hRB.1 fun a => by rw [hRA.2, hRB.2, hAB.eq]
    subst hRR
    have hRl : R.length ≤ 63 := by omega
    simp only [SS, qx2, vun, simprocAttr, ff_3]
    refine AtCall.by (same_gives (hR.mono hw13 k14) hR2 (by unfold maxL; omega) (by unfold maxL; omega)) ?_
    rintro _ n15 H15 k15 ⟨rfl, hn15, hH15⟩
    subst hn15
    obtain rfl := hH15.symm
    simp only [SS, qx2, vun, simprocAttr, same_self4, Bool.not_true, ff_3]
    repeat refine qqn rfl ?_
    refine qqm rfl ?_
    have kA : Kp n8 H8 n15 H14 := k9.trans (k911.trans (k12.trans (k13.trans k14)))
    clear k15 hR hR2 hRA hRB hR2l hRl hAB12 hAB13 hw13 k14 k13 k12 hw12 hyes2
    repeat refine qqn rfl ?_
    (refine qqr ?_; simp only [SS, qx2, vun, simprocAttr, f16, ff_3])
    refine WK.frame (fun f => f 3 = .int .i64 (dp : Nat) ∧ f 4 = .int .i64 (ms : Nat) ∧ f 5 = .pointer (some ⟨n, 0, none⟩) ∧ f 11 = .pointer (some ⟨nn, 0, none⟩) ∧ f 15 = .int .i64 t ∧ f 16 = .slice pa0 A.length A.length ∧ f 18 = .slice pb B.length B.length ∧ f 52 = .slice (some ⟨yw, 0, none⟩) (w.length + 1) (w.length + 1) ∧ f 53 = .int .i64 ((w.length + 1 : Nat) : Int) ∧ f 54 = .int .i64 (i : Nat) ∧ f 91 = .slice pa0 A.length A.length ∧ f 92 = .int .i64 (A.length : Nat) ∧ f 93 = .int .i64 ((0 : Nat) : Int)) ⟨f3, f4, f5, f11, f15, f16, f18, f52, f53, f54, rfl, rfl, rfl⟩ ?_
    clear f3 f4 f5 f11 f15 f16 f17 f18 f19 f52 f53 f54 f
    rintro f ⟨f3, f4, f5, f11, f15, f16, f18, f52, f53, f54, f91, f92, f93⟩
    repeat (first | refine qqm rfl ?_ | ((first | refine qqr ?_ | refine qqt ?_); simp only [SS, qx2, vun, simprocAttr, ff_3]))
    refine WK.loop (fun kk s => ∃ j : Nat, Kp n15 H14 s.n s.H ∧ s.f 3 = .int .i64 (dp : Nat) ∧ s.f 4 = .int .i64 (ms : Nat) ∧ s.f 5 = .pointer (some ⟨n, 0, none⟩) ∧ s.f 11 = .pointer (some ⟨nn, 0, none⟩) ∧ s.f 15 = .int .i64 t ∧ s.f 16 = .slice pa0 A.length A.length ∧ s.f 18 = .slice pb B.length B.length ∧ s.f 52 = .slice (some ⟨yw, 0, none⟩) (w.length + 1) (w.length + 1) ∧ s.f 53 = .int .i64 ((w.length + 1 : Nat) : Int) ∧ s.f 54 = .int .i64 (i : Nat) ∧ s.f 91 = .slice pa0 A.length A.length ∧ s.f 92 = .int .i64 (A.length : Nat) ∧ s.f 93 = .int .i64 (j : Nat) ∧ j ≤ A.length ∧ kk = A.length - j) A.length ?_ ?_
    · exact ⟨0, Kp.refl _ _, f3, f4, f5, f11, f15, f16, f18, f52, f53, f54, f91, f92, f93, Nat.zero_le _, rfl⟩
    clear f3 f4 f5 f11 f15 f16 f18 f52 f53 f54 f91 f92 f93 f
    rintro kk ⟨f, n16, H16⟩ ⟨j, k16', f3, f4, f5, f11, f15, f16, f18, f52, f53, f54, f91, f92, f93, hjl, rfl⟩ ih2
    simp only at k16' f3 f4 f5 f11 f15 f16 f18 f52 f53 f54 f91 f92 f93 ih2
    have hw16 := k16'.wf hw14
    have hAB16 := hAB14.mono hw14 k16'
    have kB := kA.trans k16'
    have ne16 := ne8.mono hw8n kB
    have hG16 := (kB.keep n (by omega)).trans hG8
    by_cases hjlt : j < A.length
    · have hjw : IntKind.i64.wrap ((j : Int) + 1) = ((j + 1 : Nat) : Int) := by rw [wrap_in (by omega) (by omega)]; rfl
      have hjB : j < B.length := by omega
      have hBA := hAB16.at hjlt
      have hmem := List.getElem_mem hjlt
      have hmemB := List.getElem_mem hjB
      obtain ⟨u, k0, cs, ty, own, q1, q2, q3, q4⟩ := hAB16.ra.at ccell_len hjlt
      obtain ⟨u', k0', cs', ty', own', q1', q2', q3', q4'⟩ := hAB16.rb.at ccell_len hjB
      have hun := live_lt hw16 (live_of q2)
      have hun' := live_lt hw16 (live_of q2')
      have kn := Kp.new n16 H16 (.cells (ccell A[j]) 47 true)
      have hnn := hset_at H16 n16 (.cells (ccell A[j]) 47 true)
      repeat (first | refine qqm rfl ?_ | ((first | refine qqr ?_ | refine qqt ?_); simp only [SS, qx2, vun, simprocAttr, f91, f92, f93, hjlt, q1, q2, q3, q4, v1, v2, v5, v6, f11, hs4, hset_at, ff_3]))
      generalize hset H16 n16 (.cells (ccell A[j]) 47 true) = H17 at *
      have hw17 := kn.wf hw16
      have hle16 : n8 ≤ n16 := kB.le
      refine AtCall.by (next_gives hw8n (kB.trans kn) ne8 hi hgl hlen (hAr _ hmem).1.1.1 (fun r h0 hr => (hAr _ hmem).1.1.2 r h0 hr)) ?_
      rintro _ n18 H18 k18' rfl
      have hw18 := k18'.wf hw17
      have kn18 := kn.trans k18'
      have kC := kB.trans kn18
      have hG18 := (kC.keep n (by omega)).trans hG8
      have q28 := (kn18.keep u' hun').trans q2'
      have hRG18 : RG H18 (.agg (gcells pt pv pr g).toArray) g := hg0.mono hw (k18.trans kC)
      simp only [SS, qx2, vun, simprocAttr, f5, f18, hG18, g2, g3, q1', q28, q3', q4', hjB, ff_3]
      refine AtCall.by (next14_gives hw18 hRG18 hi hgl hlen (hBg _ hmemB).1) ?_
      rintro _ n19 H19 k19' rfl
      have hw19 := k19'.wf hw18
      have kn19 := kn18.trans k19'
      have kD := kC.trans k19'
      have q29 := (kn19.keep u hun).trans q2
      have hnn19 := ((k18'.trans k19').keep n16 (Nat.lt_succ_self _)).trans hnn
      rcases Nat.eq_zero_or_pos j with hj0 | hj0
      · subst hj0
        have hz : ((0 : Int) < ((0 : Nat) : Int)) = False := eq_false (by omega)
        simp only [SS, qx2, vun, simprocAttr, hBA, hz, decide_true, decide_false, Bool.not_true, ff_3]
        repeat (first | refine qqm rfl ?_ | ((first | refine qqr ?_ | refine qqt ?_); simp only [SS, qx2, vun, simprocAttr, f93, hjw, ff_3]))
        refine ih2 (A.length - (0 + 1)) (by omega) _ ?_
        exact ⟨0 + 1, k16'.trans kn19, f3, f4, f5, f11, f15, f16, f18, f52, f53, f54, f91, f92, rfl, hjlt, rfl⟩
      · have hz : ((0 : Int) < (j : Int)) = True := eq_true (by omega)
        have hm1 : IntKind.i64.wrap ((j : Int) - 1) = ((j - 1 : Nat) : Int) := by rw [wrap_in (by omega) (by omega)]; omega
        have hj1 : j - 1 < A.length := by omega
        obtain ⟨u2, k02, cs2, ty2, own2, z1, z2, z3, z4⟩ := hAB16.ra.at ccell_len hj1
        have hzn := live_lt hw16 (live_of z2)
        have z29 := (kn19.keep u2 hzn).trans z2
        simp only [SS, qx2, vun, simprocAttr, f16, hBA, hz, hm1, hj1, z1, z29, z3, z4, hnn19, v5, v6, decide_true, decide_false, Bool.not_true, ff_3]
        have hxj := (hAB16.xa _ (List.getElem_mem hj1)).1.mono hw16 kn19
        have hxj2 := (hAB16.xa _ hmem).1.mono hw16 kn19
        have hcm : cmpC A[j - 1].1 A[j].1 = -1 := by
          have h1 := hAB16.srt.lt hjlt (by omega : j - 1 < j)
          have h2 := cmpC_small A[j - 1].1 A[j].1
          omega
        have hs1 := hAs _ (List.getElem_mem hj1)
        refine AtCall.by (cmpC_gives hw19 hxj hxj2 (by unfold maxL; omega)) ?_
        rintro _ n20 H20 k20' rfl
        have hcm' : ((-1 : Int) = -1) = True := eq_true rfl
        simp only [SS, qx2, vun, simprocAttr, hcm, hcm', decide_true, decide_false, Bool.not_true, ff_3]
        repeat (first | refine qqm rfl ?_ | ((first | refine qqr ?_ | refine qqt ?_); simp only [SS, qx2, vun, simprocAttr, f93, hjw, ff_3]))
        refine ih2 (A.length - (j + 1)) (by omega) _ ?_
        exact ⟨j + 1, k16'.trans (kn19.trans k20'), f3, f4, f5, f11, f15, f16, f18, f52, f53, f54, f91, f92, rfl, hjlt, rfl⟩
    · obtain rfl : j = A.length := by omega
      repeat (first | refine qqm rfl ?_ | ((first | refine qqr ?_ | refine qqt ?_); simp only [SS, qx2, vun, simprocAttr, f5, f11, f15, f16, f18, f92, f93, hG16, g2, g3, Nat.lt_irrefl, Int.lt_irrefl, ff_3]))
      refine AtCall.by (move_gives hw16 ne16 ok hAB16.ra hAB16.xa (fun z hz => (hAr z hz).1) (by omega) (fun z hz => by have := hAs z hz; omega)) ?_
      rintro _ n17 H17 k17' ⟨pM, M1, rfl, hM1, hM1m, hM1x⟩
      have hw17 := k17'.wf hw16
      have kB7 := kB.trans k17'
      have hG17 := (kB7.keep n (by omega)).trans hG8
      have hRG17 : RG H17 (.agg (gcells pt pv pr g).toArray) g := hg0.mono hw (k18.trans kB7)
      have hAB17 := hAB16.mono hw16 k17'
      simp only [SS, qx2, vun, simprocAttr, f5, f15, f18, hG17, g2, g3, ff_3]
      refine AtCall.by (move14_gives hw17 hRG17 ok hAB17.rb hAB17.xb hBg (by omega)) ?_
      rintro _ n18 H18 k18' ⟨yM, M2, rfl, hyM, hM2m, hM2x⟩
      have hw18 := k18'.wf hw17
      have kB8 := kB7.trans k18'
      have hM12 : M1.map (·.1) = M2.map (·.1) := by rw [hM1m, hM2m, hAB.eq]
      have hM1' := hM1.mono hw17 k18'
      have hM2' : RN 4 ccell H18 (some ⟨yM, 0, none⟩) M2 := .inr ⟨yM, 0, _, _, true, rfl, hyM, by rw [fm_len ccell_len]; omega, by rw [List.drop_zero]; exact List.take_of_length_le (by rw [fm_len ccell_len]; omega)⟩
      have hM1x' : ∀ z ∈ M1, XC H18 z := fun z hz => (hM1x z hz).keep (Kp.spk hw17 k18')
      have hM1l : M1.length ≤ 63 := by
        have h1 : M1.length = (M1.map (·.1)).length := (List.length_map _).symm
        rw [h1, hM1m]
        exact Nat.le_trans moveL_len (by rw [List.length_map]; omega)
      have hM1g : ∀ z ∈ M1, GC g z.1 ∧ AltOK g z.1 ∧ z.1.stack.length ≤ 100 := fun z hz => by
        have h1 : z.1 ∈ moveL g t (A.map (·.1)) := by rw [← hM1m]; exact List.mem_map.2 ⟨z, hz, rfl⟩
        obtain ⟨d, hd, e, h0, hn⟩ := moveL_at h1
        obtain ⟨y, hy, rfl⟩ := List.mem_map.1 hd
        rw [e]
        exact ⟨mvC_gc (hAr y hy).1 h0 hn, (hAr y hy).2, by have := hAs y hy; show y.1.stack.length ≤ 100; omega⟩
      have hM2s : ∀ z ∈ M2, z.1.stack.length ≤ 100 := fun z hz => by
        have h1 : z.1 ∈ M1.map (·.1) := by rw [hM12]; exact List.mem_map.2 ⟨z, hz, rfl⟩
        obtain ⟨y, hy, e⟩ := List.mem_map.1 h1
        rw [← e]; exact (hM1g y hy).2.2
      simp only [SS, qx2, vun, simprocAttr, ff_3]
      repeat (first | refine qqm rfl ?_ | ((first | refine qqr ?_ | refine qqt ?_); simp only [SS, qx2, vun, simprocAttr, ff_3]))
      refine AtCall.by (same12_gives hw18 hM1' hM2' (fun z hz => (hM1x' z hz).1) (fun z hz => (hM2x z hz).1) (fun z hz => by have := (hM1g z hz).2.2; omega) (fun z hz => by have := hM2s z hz; omega) (by omega)) ?_
      rintro _ n19 H19 k19' rfl
      have hyes3 : (M1.map (·.1) = M2.map (·.1)) = True := eq_true hM12
      simp only [SS, qx2, vun, simprocAttr, hyes3, decide_true, Bool.not_true, ff_3]
      repeat (first | refine qqm rfl ?_ | ((first | refine qqr ?_ | refine qqt ?_); simp only [SS, qx2, vun, simprocAttr, f54, hiw, ff_3]))
      refine ih (w.length + 1 - (i + 1)) (by omega) _ ?_
      exact ⟨i + 1, pM, some ⟨yM, 0, none⟩, M1, M2, kB8.trans k19', f3, f4, f5, f11, rfl, rfl, f52, f53, rfl, hlt, hM1'.mono hw18 k19', hM2'.mono hw18 k19', fun z hz => (hM1x' z hz).keep (Kp.spk hw18 k19'), fun z hz => (hM2x z hz).kp hw18 k19', hM12, by omega, hM1g, rfl⟩
  · obtain rfl : i = w.length + 1 := by omega
    repeat (first | refine qqm rfl ?_ | ((first | refine qqr ?_ | refine qqt ?_); simp only [SS, qx2, vun, simprocAttr, f53, f54, hlt, Nat.lt_irrefl, Int.lt_irrefl, ff_3]))
    first | refine qqf ?_ ?_ | refine qqg ?_ ?_
    · exact k19.keep
    · simp only [packed, qv, Nat.reduceEqDiff, ↓reduceIte, ff_3]
end Go.Proofs.Ytfbdababcdfjfaa

namespace Go.Proofs.Ytfbdababcdfjfaa
open Go.AM
set_option maxRecDepth 100000
theorem und_22 : Try.prog.underlying 22 = some (.slice 9) := by kernel_rfl
theorem und_23 : Try.prog.underlying 23 = some (.slice 65) := by kernel_rfl
theorem und_26 : Try.prog.underlying 26 = some (.slice 3) := by kernel_rfl
theorem und_25 : ∃ f1 f2 f3 : Field, Try.prog.underlying 25 = some (.struct #[f1, f2, f3]) ∧ f1.type = 22 ∧ f1.offset = 0 ∧ f2.type = 22 ∧ f2.offset = 1 ∧ f3.type = 23 ∧ f3.offset = 2 :=
 ⟨{ name := "Terms", type := 22, offset := 0, embedded := false, tag := "", pkgPath := "", byteOffset := 0 }, { name := "Vars", type := 22, offset := 1, embedded := false, tag := "", pkgPath := "", byteOffset := 24 },
  { name := "Rules", type := 23, offset := 2, embedded := false, tag := "", pkgPath := "", byteOffset := 48 }, by kernel_rfl, rfl, rfl, rfl, rfl, rfl, rfl⟩
theorem und_65 : ∃ f1 f2 f3 : Field, Try.prog.underlying 65 = some (.struct #[f1, f2, f3]) ∧ f1.type = 3 ∧ f1.offset = 0 ∧ f2.type = 26 ∧ f2.offset = 1 ∧ f3.type = 63 ∧ f3.offset = 2 :=
 ⟨{ name := "Left", type := 3, offset := 0, embedded := false, tag := "", pkgPath := "", byteOffset := 0 }, { name := "Right", type := 26, offset := 1, embedded := false, tag := "", pkgPath := "", byteOffset := 8 },
  { name := "Weight", type := 63, offset := 2, embedded := false, tag := "", pkgPath := "", byteOffset := 32 }, by kernel_rfl, rfl, rfl, rfl, rfl, rfl, rfl⟩
theorem gramT : GramT Try.prog 25 65 3 9 22 23 26 63 := ⟨und_25, und_65, und_3, und_9, und_22, und_23, und_26, und_63, csz_3, csz_9, csz_22, csz_23, csz_26, csz_63, csz_65, csz_25⟩
theorem own : ownKnob Try.prog.godebug = none := by kernel_rfl
theorem laid : laidOutB Try.prog = true := by kernel_rfl
theorem plain_all : ([25, 3, 26, 47].all fun t => plainT Try.prog 10 t && Try.prog.readableRec t && decide (t < Try.prog.types.size)) = true := by kernel_rfl
theorem plain_of {t : TypeId} (h : t ∈ [25, 3, 26, 47]) : plainT Try.prog 10 t = true ∧ Try.prog.readableRec t = true ∧ t < Try.prog.types.size := by
 have := List.all_eq_true.1 plain_all t h
 simp only [Bool.and_eq_true, decide_eq_true_eq] at this
 exact ⟨this.1.1, this.1.2, this.2⟩
variable {H : Heap}
end Go.Proofs.Ytfbdababcdfjfaa
