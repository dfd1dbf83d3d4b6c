/- A part of a proof. Its conditions: none. -/
import Derived.Test.YtfbdababcdfjfaaAmNAtOfP
import Derived.Test.YtfbdababcdfjfaaAmC
import Derived.Test.YtfbdababcdfjfaaAmNLfRight
import Derived.Test.YtfbdababcdfjfaaAmNAtStep
import Derived.Test.YtfbdababcdfjfaaAmD
set_option linter.all false
namespace Go.Proofs.Ytfbdababcdfjfaa
open Go.AM Go.AM.Fo
set_option maxRecDepth 100000
set_option maxHeartbeats 64000000 in
theorem of10_gives {n0 n most : Nat} {H0 H : Heap} {v : Value} {g : Gram} (hw0 : WF n0 H0) (hro : AllRO H0) (hg : RG H0 v g) (hk : Kp n0 H0 n H) (ok : RightOK g) (hvs : g.vars.length ≤ 8) (hts : g.terms.length ≤ 6) (hrl : g.rules.length ≤ 24) (hlen : ∀ r ∈ g.rules, r.right.length ≤ 8) (hm : most ≤ 1000) :
    Gives Try.prog 23 [v, .int .i64 2, .int .i64 (most : Nat)] n H fun v _ H' => OfQ g v H' := by
  have hw := hk.wf hw0
  obtain ⟨pt, pv, pr, rfl, ht, hv, hr⟩ := hg
  have hi := ok.inG
  refine Gives.of orders ok23 (Nat.le_of_ble_eq_true rfl) ?_
  repeat refine qqn rfl ?_
  (refine qqr ?_; simp only [SS, qx9, simprocAttr, abox, box_cells, box_one, ff_23])
  have k1 := Kp.new n H (.cells (gcells pt pv pr g) 25 true)
  have hG := hset_at H n (.cells (gcells pt pv pr g) 25 true)
  generalize hset H n (.cells (gcells pt pv pr g) 25 true) = H1 at *
  have k2 := Kp.new (n + 1) H1 (.cells [.int .i64 (Int.ofNat 0), .slice none 0 0, .slice none 0 0] 60 true)
  have hR := hset_at H1 (n + 1) (.cells [.int .i64 (Int.ofNat 0), .slice none 0 0, .slice none 0 0] 60 true)
  generalize hset H1 (n + 1) (.cells [.int .i64 (Int.ofNat 0), .slice none 0 0, .slice none 0 0] 60 true) = H2 at *
  have hs3 : ∀ a b c x y z : Value, AM.splice [a, b, c] 0 [x, y, z] = [x, y, z] := fun _ _ _ _ _ _ => rfl
  repeat refine qqn rfl ?_
  (refine qqr ?_; simp only [SS, qx9, simprocAttr, hs3, ff_23])
  have k3 := Kp.new (n + 1 + 1) H2 (.cells [.int .i64 2, .slice none 0 0, .slice none 0 0] 60 true)
  have hS := hset_at H2 (n + 1 + 1) (.cells [.int .i64 2, .slice none 0 0, .slice none 0 0] 60 true)
  generalize hset H2 (n + 1 + 1) (.cells [.int .i64 2, .slice none 0 0, .slice none 0 0] 60 true) = H3 at *
  have hG3 := ((k2.trans k3).keep n (by omega)).trans hG
  have hR3 := (k3.keep (n + 1) (by omega)).trans hR
  have k13 := k1.trans (k2.trans k3)
  have hw3 := k13.wf hw
  have sF : ∀ (a b c x : Value), AM.splice [a, b, c] 1 [x] = [a, x, c] := fun _ _ _ _ => rfl
  have sO : ∀ (a b c x : Value), AM.splice [a, b, c] 2 [x] = [a, b, x] := fun _ _ _ _ => rfl
  repeat (first | refine qqm rfl ?_ | ((first | refine qqr ?_ | refine qqt ?_); simp only [SS, qx9, simprocAttr, ff_23]))
  refine WK.loop (fun kk s => ∃ (j yF yO : Nat) (Fs Os : List SA), Kx (fun z => z = n + 1 + 1 ∨ n + 1 + 1 + 1 ≤ z) (n + 1 + 1 + 1) H3 s.n s.H ∧ s.f 3 = .pointer (some ⟨n, 0, none⟩) ∧ s.f 6 = .pointer (some ⟨n + 1, 0, none⟩) ∧ s.f 8 = .pointer (some ⟨n + 1 + 1, 0, none⟩) ∧ s.f 2 = .int .i64 (most : Nat) ∧ s.f 9 = .int .i64 (j : Nat) ∧ j ≤ g.vars.length ∧
      s.H (n + 1 + 1) = .cells [.int .i64 2, sl yF j, sl yO j] 60 true ∧ (j ≠ 0 → n + 1 + 1 + 1 ≤ yF ∧ yF < s.n ∧ n + 1 + 1 + 1 ≤ yO ∧ yO < s.n ∧ yF ≠ yO ∧ s.H yF = .cells (Fs.flatMap scell) 66 true ∧ s.H yO = .cells (Os.flatMap scell) 66 true) ∧ Fs.length = j ∧ Os.length = j ∧
      (∀ x ∈ Fs, x.1 = [] ∧ GoodS s.H x.2 x.1) ∧ (∀ x ∈ Os, x.1 = [] ∧ GoodS s.H x.2 x.1) ∧ kk = g.vars.length - j) g.vars.length ?_ ?_
  · exact ⟨0, 0, 0, [], [], Kx.refl _ _ _, rfl, rfl, rfl, rfl, rfl, Nat.zero_le _, hS, fun h => absurd rfl h, rfl, rfl, fun x hx => (by cases hx), fun x hx => (by cases hx), rfl⟩
  rintro kk ⟨f, n4, H4⟩ ⟨j, yF, yO, Fs, Os, k4, f3, f6, f8, f2, f9, hjl, hS4, hyy, hFl, hOl, hFg, hOg, rfl⟩ ih
  simp only at k4 f3 f6 f8 f2 f9 hS4 hyy hFg hOg ih
  have hw4 := k4.wf hw3
  have hle4 := k4.le
  have hG4 := (k4.keep n (by omega) (by omega)).trans hG3
  by_cases hlt : j < g.vars.length
  · have hjw : IntKind.i64.wrap ((j : Int) + 1) = ((j + 1 : Nat) : Int) := by rw [wrap_in (by omega) (by omega)]; rfl
    repeat refine qqn rfl ?_
    (refine qqr ?_; simp only [SS, qx9, simprocAttr, f3, f9, hG4, gc_1, hlt, ff_23])
    repeat refine qqn rfl ?_
    refine qqm rfl ?_
    apply WK.skipSeq; apply WK.seq; apply WK.block; apply WK.seq
    refine WK.cut (fun s => ∃ (yF' : Nat) (Fs' : List SA), Kx (fun z => z = n + 1 + 1 ∨ n + 1 + 1 + 1 ≤ z) (n + 1 + 1 + 1) H3 s.n s.H ∧ s.f 3 = .pointer (some ⟨n, 0, none⟩) ∧ s.f 6 = .pointer (some ⟨n + 1, 0, none⟩) ∧ s.f 8 = .pointer (some ⟨n + 1 + 1, 0, none⟩) ∧ s.f 2 = .int .i64 (most : Nat) ∧ s.f 9 = .int .i64 (j : Nat) ∧
        s.H (n + 1 + 1) = .cells [.int .i64 2, .slice (some ⟨yF', 0, none⟩) (j + 1) (j + 1), sl yO j] 60 true ∧ n + 1 + 1 + 1 ≤ yF' ∧ yF' < s.n ∧ s.H yF' = .cells (Fs'.flatMap scell) 66 true ∧ Fs'.length = j + 1 ∧ (∀ x ∈ Fs', x.1 = [] ∧ GoodS s.H x.2 x.1) ∧ (∀ x ∈ Os, x.1 = [] ∧ GoodS s.H x.2 x.1) ∧
        (j ≠ 0 → n + 1 + 1 + 1 ≤ yO ∧ yO < s.n ∧ yF' ≠ yO ∧ s.H yO = .cells (Os.flatMap scell) 66 true)) ?_ ?_
    · have hnew : (Fs ++ [((([] : List WA), (some ⟨n4, 0, none⟩ : Option Addr)) : SA)]).flatMap scell = Fs.flatMap scell ++ [.slice (some ⟨n4, 0, none⟩) 0 0] := by rw [List.flatMap_append]; rfl
      have w1 : [Value.slice (some ⟨n4, 0, none⟩) 0 0].take 1 = [.slice (some ⟨n4, 0, none⟩) 0 0] := rfl
      have m0 : ∀ A, hset H4 n4 A (n + 1 + 1) = _ := fun A => (hset_ne _ _ _ (by omega)).trans hS4
      have b1 : n4 ≠ n + 1 + 1 := by omega
      by_cases hj0 : j = 0
      · subst hj0
        obtain rfl := List.eq_nil_of_length_eq_zero hFl
        rw [sl_zero, sl_zero] at hS4
        have m1 : ∀ A B C, hset (hset (hset H4 n4 A) (n4 + 1) B) (n4 + 1 + 1) C (n + 1 + 1) = _ := fun A B C => (hset_ne _ _ _ (by omega)).trans ((hset_ne _ _ _ (by omega)).trans ((hset_ne _ _ _ (by omega)).trans hS4))
        have m0 : ∀ A, hset H4 n4 A (n + 1 + 1) = _ := fun A => (hset_ne _ _ _ (by omega)).trans hS4
        (refine qqr ?_; simp only [SS, qx9, simprocAttr, f8, hS4, m0, m1, sF, w1, hset_at, Nat.le_refl, List.drop_zero, ff_23])
        have kN : ∀ A B C D, Kx (fun z => z = n + 1 + 1) n4 H4 (n4 + 1 + 1 + 1) (hset (hset (hset (hset H4 n4 A) (n4 + 1) B) (n4 + 1 + 1) C) (n + 1 + 1) D) := fun A B C D => ((((Kp.new n4 H4 A).trans (Kp.new (n4 + 1) _ B)).trans (Kp.new (n4 + 1 + 1) _ C)).kx (X := fun z => z = n + 1 + 1)).set (x := n + 1 + 1) D (.inl rfl) (by omega)
        have kN' := kN (.cells [] 26 true) (.cells [.slice (some ⟨n4, 0, none⟩) 0 0] 66 true) (.cells [.slice (some ⟨n4, 0, none⟩) 0 0] 66 true) (.cells [.int .i64 2, .slice (some ⟨n4 + 1 + 1, 0, none⟩) 1 1, .slice none 0 0] 60 true)
        refine WK.skipNil ⟨rfl, n4 + 1 + 1, [(([] : List WA), some ⟨n4, 0, none⟩)], k4.trans (kN'.mono fun q _ h => .inl h), f3, f6, f8, f2, f9, hset_at _ _ _, by omega, Nat.lt_succ_self _, ?_, rfl, fun x hx => ?_, fun x hx => ⟨(hOg x hx).1, (hOg x hx).2.kx hw4 hS4 (by decide) (by decide) kN'⟩, by simp⟩
        · exact (hset_ne _ _ _ (by omega)).trans (hset_at _ _ _)
        · rw [List.mem_singleton] at hx
          rw [hx]
          exact ⟨rfl, GoodS.nil ((hset_ne _ _ _ b1).trans ((hset_ne _ _ _ (by omega)).trans ((hset_ne _ _ _ (by omega)).trans (hset_at _ _ _))))⟩
      · obtain ⟨hf0, hf1, ho0, ho1, hne, hyF, hyO⟩ := hyy hj0
        have hS4' := hS4
        rw [sl_pos hj0] at hS4'
        have m0' : ∀ A, hset H4 n4 A (n + 1 + 1) = _ := fun A => (hset_ne _ _ _ (by omega)).trans hS4'
        have my : ∀ A B, hset (hset H4 n4 A) (n4 + 1) B yF = _ := fun A B => (hset_ne _ _ _ (by omega)).trans ((hset_ne _ _ _ (by omega)).trans hyF)
        have m1 : ∀ A B C D, hset (hset (hset (hset H4 n4 A) (n4 + 1) B) yF C) (n4 + 1 + 1) D (n + 1 + 1) = _ := fun A B C D => (hset_ne _ _ _ (by omega)).trans ((hset_ne _ _ _ (by omega)).trans ((hset_ne _ _ _ (by omega)).trans ((hset_ne _ _ _ (by omega)).trans hS4')))
        have c2 : [n4 + 1].contains yF = false := by simp; omega
        have bl : j + 1 ≤ bigN := by unfold bigN; omega
        have hfl : (Fs.flatMap scell).length = j := by rw [fm_len scell_len, hFl, Nat.mul_one]
        have htk : (Fs.flatMap scell).take j = Fs.flatMap scell := List.take_of_length_le (by omega)
        (refine qqr ?_; simp only [SS, qx9, simprocAttr, f8, hS4', m0', m1, my, c2, bl, hfl, htk, sF, w1, hset_at, Nat.le_refl, List.drop_zero, Nat.mul_one, ff_23])
        have kN : ∀ A B C D, Kx (fun z => z = n + 1 + 1 ∨ z = yF) n4 H4 (n4 + 1 + 1 + 1) (hset (hset (hset (hset (hset H4 n4 A) (n4 + 1) B) yF .dead) (n4 + 1 + 1) C) (n + 1 + 1) D) := fun A B C D => (((((Kp.new n4 H4 A).trans (Kp.new (n4 + 1) _ B)).kx (X := fun z => z = n + 1 + 1 ∨ z = yF)).set (x := yF) .dead (.inl (.inr rfl)) (by omega)).trans (Kp.new (n4 + 1 + 1) _ C).kx).set (x := n + 1 + 1) D (.inl (.inl rfl)) (by omega)
        have kN1 : ∀ A B C, Kx (fun z => z = yF) n4 H4 (n4 + 1 + 1 + 1) (hset (hset (hset (hset H4 n4 A) (n4 + 1) B) yF .dead) (n4 + 1 + 1) C) := fun A B C => ((((Kp.new n4 H4 A).trans (Kp.new (n4 + 1) _ B)).kx (X := fun z => z = yF)).set (x := yF) .dead (.inl rfl) (by omega)).trans (Kp.new (n4 + 1 + 1) _ C).kx
        have gk : ∀ A B C D {p X}, GoodS H4 p X → GoodS (hset (hset (hset (hset (hset H4 n4 A) (n4 + 1) B) yF .dead) (n4 + 1 + 1) C) (n + 1 + 1) D) p X := fun A B C D p X h => (h.kx hw4 hyF (by decide) (by decide) (kN1 A B C)).kx ((kN1 A B C).wf hw4) (m1 A B .dead C) (by decide) (by decide) ((Kx.refl _ _ _).set D (.inl rfl) (by omega))
        have kN' := kN (.cells [] 26 true) (.cells [.slice (some ⟨n4, 0, none⟩) 0 0] 66 true) (.cells (Fs.flatMap scell ++ [.slice (some ⟨n4, 0, none⟩) 0 0]) 66 true) (.cells [.int .i64 2, .slice (some ⟨n4 + 1 + 1, 0, none⟩) (j + 1) (j + 1), sl yO j] 60 true)
        refine WK.skipNil ⟨rfl, n4 + 1 + 1, Fs ++ [(([] : List WA), some ⟨n4, 0, none⟩)], k4.trans (kN'.mono fun q _ h => by show q = n + 1 + 1 ∨ n + 1 + 1 + 1 ≤ q; rcases h with h | h <;> omega), f3, f6, f8, f2, f9, hset_at _ _ _, by omega, Nat.lt_succ_self _, ?_, by simp [hFl], fun x hx => ?_, fun x hx => ⟨(hOg x hx).1, gk _ _ _ _ (hOg x hx).2⟩, fun _ => ⟨ho0, by show yO < n4 + 1 + 1 + 1; omega, by omega, ?_⟩⟩
        · rw [hnew]
          exact (hset_ne _ _ _ (by omega)).trans (hset_at _ _ _)
        · rcases List.mem_append.1 hx with h | h
          · exact ⟨(hFg x h).1, gk _ _ _ _ (hFg x h).2⟩
          · rw [List.mem_singleton] at h
            rw [h]
            exact ⟨rfl, GoodS.nil ((hset_ne _ _ _ b1).trans ((hset_ne _ _ _ (by omega)).trans ((hset_ne _ _ _ (by omega)).trans ((hset_ne _ _ _ (by omega)).trans (hset_at _ _ _)))))⟩
        · exact (hset_ne _ _ _ (by omega)).trans ((hset_ne _ _ _ (by omega)).trans ((hset_ne _ _ _ (Ne.symm hne)).trans ((hset_ne _ _ _ (by omega)).trans ((hset_ne _ _ _ (by omega)).trans hyO))))
    clear k4 f3 f6 f8 f2 f9 hS4 hyy hFg hOg hw4 hle4 hG4 f n4 H4 hFl Fs yF
    rintro ⟨f, n4, H4⟩ ⟨yF, Fs, k4, f3, f6, f8, f2, f9, hS4, hf0, hf1, hyF, hFl, hFg, hOg, hyy⟩
    simp only at k4 f3 f6 f8 f2 f9 hS4 hf1 hyF hFg hOg hyy
    have hw4 := k4.wf hw3
    have hle4 := k4.le
    have hnew : (Os ++ [((([] : List WA), (some ⟨n4, 0, none⟩ : Option Addr)) : SA)]).flatMap scell = Os.flatMap scell ++ [.slice (some ⟨n4, 0, none⟩) 0 0] := by rw [List.flatMap_append]; rfl
    have w1 : [Value.slice (some ⟨n4, 0, none⟩) 0 0].take 1 = [.slice (some ⟨n4, 0, none⟩) 0 0] := rfl
    have b1 : n4 ≠ n + 1 + 1 := by omega
    by_cases hj0 : j = 0
    · subst hj0
      obtain rfl := List.eq_nil_of_length_eq_zero hOl
      rw [sl_zero] at hS4
      have m1 : ∀ A B C, hset (hset (hset H4 n4 A) (n4 + 1) B) (n4 + 1 + 1) C (n + 1 + 1) = _ := fun A B C => (hset_ne _ _ _ (by omega)).trans ((hset_ne _ _ _ (by omega)).trans ((hset_ne _ _ _ (by omega)).trans hS4))
      have m0 : ∀ A, hset H4 n4 A (n + 1 + 1) = _ := fun A => (hset_ne _ _ _ (by omega)).trans hS4
      repeat (first | refine qqm rfl ?_ | ((first | refine qqr ?_ | refine qqt ?_); simp only [SS, qx9, simprocAttr, f8, f9, hS4, m0, m1, sO, w1, hjw, hset_at, Nat.le_refl, List.drop_zero, ff_23]))
      have kN : ∀ A B C D, Kx (fun z => z = n + 1 + 1) n4 H4 (n4 + 1 + 1 + 1) (hset (hset (hset (hset H4 n4 A) (n4 + 1) B) (n4 + 1 + 1) C) (n + 1 + 1) D) := fun A B C D => ((((Kp.new n4 H4 A).trans (Kp.new (n4 + 1) _ B)).trans (Kp.new (n4 + 1 + 1) _ C)).kx (X := fun z => z = n + 1 + 1)).set (x := n + 1 + 1) D (.inl rfl) (by omega)
      have kN' := kN (.cells [] 26 true) (.cells [.slice (some ⟨n4, 0, none⟩) 0 0] 66 true) (.cells [.slice (some ⟨n4, 0, none⟩) 0 0] 66 true) (.cells [.int .i64 2, .slice (some ⟨yF, 0, none⟩) (0 + 1) (0 + 1), .slice (some ⟨n4 + 1 + 1, 0, none⟩) 1 1] 60 true)
      refine ih (g.vars.length - (0 + 1)) (by omega) _ ?_
      refine ⟨0 + 1, yF, n4 + 1 + 1, Fs, [(([] : List WA), some ⟨n4, 0, none⟩)], k4.trans (kN'.mono fun q _ h => .inl h), f3, f6, f8, f2, rfl, hlt, (hset_at _ _ _).trans (by rw [sl_pos (by omega), sl_pos (by omega)]), fun _ => ⟨hf0, by show yF < n4 + 1 + 1 + 1; omega, by omega, Nat.lt_succ_self _, by omega, (kN'.keep yF hf1 (by show ¬ yF = n + 1 + 1; omega)).trans hyF, ?_⟩, hFl, rfl, fun x hx => ⟨(hFg x hx).1, (hFg x hx).2.kx hw4 hS4 (by decide) (by decide) kN'⟩, fun x hx => ?_, rfl⟩
      · exact (hset_ne _ _ _ (by omega)).trans (hset_at _ _ _)
      · rw [List.mem_singleton] at hx
        rw [hx]
        exact ⟨rfl, GoodS.nil ((hset_ne _ _ _ b1).trans ((hset_ne _ _ _ (by omega)).trans ((hset_ne _ _ _ (by omega)).trans (hset_at _ _ _))))⟩
    · obtain ⟨ho0, ho1, hne, hyO⟩ := hyy hj0
      have hS4' := hS4
      rw [sl_pos hj0] at hS4'
      have m0' : ∀ A, hset H4 n4 A (n + 1 + 1) = _ := fun A => (hset_ne _ _ _ (by omega)).trans hS4'
      have my : ∀ A B, hset (hset H4 n4 A) (n4 + 1) B yO = _ := fun A B => (hset_ne _ _ _ (by omega)).trans ((hset_ne _ _ _ (by omega)).trans hyO)
      have m1 : ∀ A B C D, hset (hset (hset (hset H4 n4 A) (n4 + 1) B) yO C) (n4 + 1 + 1) D (n + 1 + 1) = _ := fun A B C D => (hset_ne _ _ _ (by omega)).trans ((hset_ne _ _ _ (by omega)).trans ((hset_ne _ _ _ (by omega)).trans ((hset_ne _ _ _ (by omega)).trans hS4')))
      have c2 : [n4 + 1].contains yO = false := by simp; omega
      have bl : j + 1 ≤ bigN := by unfold bigN; omega
      have hfl : (Os.flatMap scell).length = j := by rw [fm_len scell_len, hOl, Nat.mul_one]
      have htk : (Os.flatMap scell).take j = Os.flatMap scell := List.take_of_length_le (by omega)
      repeat (first | refine qqm rfl ?_ | ((first | refine qqr ?_ | refine qqt ?_); simp only [SS, qx9, simprocAttr, f8, f9, hS4', m0', m1, my, c2, bl, hfl, htk, sO, w1, hjw, hset_at, Nat.le_refl, List.drop_zero, Nat.mul_one, ff_23]))
      have kN : ∀ A B C D, Kx (fun z => z = n + 1 + 1 ∨ z = yO) n4 H4 (n4 + 1 + 1 + 1) (hset (hset (hset (hset (hset H4 n4 A) (n4 + 1) B) yO .dead) (n4 + 1 + 1) C) (n + 1 + 1) D) := fun A B C D => (((((Kp.new n4 H4 A).trans (Kp.new (n4 + 1) _ B)).kx (X := fun z => z = n + 1 + 1 ∨ z = yO)).set (x := yO) .dead (.inl (.inr rfl)) (by omega)).trans (Kp.new (n4 + 1 + 1) _ C).kx).set (x := n + 1 + 1) D (.inl (.inl rfl)) (by omega)
      have kN1 : ∀ A B C, Kx (fun z => z = yO) n4 H4 (n4 + 1 + 1 + 1) (hset (hset (hset (hset H4 n4 A) (n4 + 1) B) yO .dead) (n4 + 1 + 1) C) := fun A B C => ((((Kp.new n4 H4 A).trans (Kp.new (n4 + 1) _ B)).kx (X := fun z => z = yO)).set (x := yO) .dead (.inl rfl) (by omega)).trans (Kp.new (n4 + 1 + 1) _ C).kx
      have gk : ∀ A B C D {p X}, GoodS H4 p X → GoodS (hset (hset (hset (hset (hset H4 n4 A) (n4 + 1) B) yO .dead) (n4 + 1 + 1) C) (n + 1 + 1) D) p X := fun A B C D p X h => (h.kx hw4 hyO (by decide) (by decide) (kN1 A B C)).kx ((kN1 A B C).wf hw4) (m1 A B .dead C) (by decide) (by decide) ((Kx.refl _ _ _).set D (.inl rfl) (by omega))
      have kN' := kN (.cells [] 26 true) (.cells [.slice (some ⟨n4, 0, none⟩) 0 0] 66 true) (.cells (Os.flatMap scell ++ [.slice (some ⟨n4, 0, none⟩) 0 0]) 66 true) (.cells [.int .i64 2, .slice (some ⟨yF, 0, none⟩) (j + 1) (j + 1), .slice (some ⟨n4 + 1 + 1, 0, none⟩) (j + 1) (j + 1)] 60 true)
      refine ih (g.vars.length - (j + 1)) (by omega) _ ?_
      refine ⟨j + 1, yF, n4 + 1 + 1, Fs, Os ++ [(([] : List WA), some ⟨n4, 0, none⟩)], k4.trans (kN'.mono fun q _ h => by show q = n + 1 + 1 ∨ n + 1 + 1 + 1 ≤ q; rcases h with h | h <;> omega), f3, f6, f8, f2, rfl, hlt, (hset_at _ _ _).trans (by rw [sl_pos (by omega), sl_pos (by omega)]), fun _ => ⟨hf0, by show yF < n4 + 1 + 1 + 1; omega, by omega, Nat.lt_succ_self _, by omega, (kN'.keep yF hf1 (by show ¬ (yF = n + 1 + 1 ∨ yF = yO); omega)).trans hyF, ?_⟩, hFl, by simp [hOl], fun x hx => ⟨(hFg x hx).1, gk _ _ _ _ (hFg x hx).2⟩, fun x hx => ?_, rfl⟩
      · rw [hnew]
        exact (hset_ne _ _ _ (by omega)).trans (hset_at _ _ _)
      · rcases List.mem_append.1 hx with h | h
        · exact ⟨(hOg x h).1, gk _ _ _ _ (hOg x h).2⟩
        · rw [List.mem_singleton] at h
          rw [h]
          exact ⟨rfl, GoodS.nil ((hset_ne _ _ _ b1).trans ((hset_ne _ _ _ (by omega)).trans ((hset_ne _ _ _ (by omega)).trans ((hset_ne _ _ _ (by omega)).trans (hset_at _ _ _)))))⟩
  · obtain rfl : j = g.vars.length := by omega
    have hv1 := ok.vars1
    obtain ⟨hf0, hf1, ho0, ho1, hne, hyF, hyO⟩ := hyy (by omega)
    rw [sl_pos (by omega), sl_pos (by omega)] at hS4
    have h0O : 0 < Os.length := by omega
    have gO0 := flat_get h0O
    have hofl : (Os.flatMap scell).length = g.vars.length := by rw [fm_len scell_len, hOl, Nat.mul_one]
    have m0 : ∀ A B, hset (hset H4 n4 A) (n4 + 1) B (n + 1 + 1) = _ := fun A B => (hset_ne _ _ _ (by omega)).trans ((hset_ne _ _ _ (by omega)).trans hS4)
    have my : ∀ A B, hset (hset H4 n4 A) (n4 + 1) B yO = _ := fun A B => (hset_ne _ _ _ (by omega)).trans ((hset_ne _ _ _ (by omega)).trans hyO)
    have hv1' : 0 < g.vars.length := by omega
    have hv1i : ((0 : Int) < (g.vars.length : Int)) = True := eq_true (by omega)
    have hI4 : OfI H4 (n + 1 + 1) yF yO g.vars.length Fs Os := ⟨hS4, hyF, hyO, hne, hFl, hOl, fun x hx => (hFg x hx).2, fun x hx => (hOg x hx).2⟩
    have hS0 : SoundS g Fs Os := ⟨fun v x hx c hc => by rw [(hFg x (List.mem_of_getElem? hx)).1] at hc; simp at hc, fun v x hx c hc => by rw [(hOg x (List.mem_of_getElem? hx)).1] at hc; simp at hc⟩
    repeat refine qqn rfl ?_
    (refine qqr ?_; simp only [SS, qx9, simprocAttr, f3, f9, hG4, gc_1, hlt, ff_23])
    repeat refine qqn rfl ?_
    refine qqm rfl ?_
    repeat refine qqn rfl ?_
    (refine qqr ?_; simp only [SS, qx9, simprocAttr, f8, hS4, m0, my, hofl, hv1, hv1', hv1i, hset_at, Nat.le_refl, ff_23])
    have hfs : (Os.flatMap scell).set 0 (.slice (some ⟨n4 + 1, 0, none⟩) 1 1) = (Os.set 0 ([(([] : List Int), (some ⟨n4, 0, none⟩ : Option Addr))], (some ⟨n4 + 1, 0, none⟩ : Option Addr))).flatMap scell := flat_set h0O (([(([] : List Int), (some ⟨n4, 0, none⟩ : Option Addr))], (some ⟨n4 + 1, 0, none⟩ : Option Addr)) : SA)
    rw [hfs]
    clear hfs
    have kl := (Kp.new n4 H4 (.cells [] 3 true)).trans (Kp.new (n4 + 1) _ (.cells [.slice (some ⟨n4, 0, none⟩) 0 0] 26 true))
    have l1 : (hset (hset H4 n4 (.cells [] 3 true)) (n4 + 1) (.cells [.slice (some ⟨n4, 0, none⟩) 0 0] 26 true)) (n4 + 1) = .cells [.slice (some ⟨n4, 0, none⟩) 0 0] 26 true := hset_at _ _ _
    have l2 : (hset (hset H4 n4 (.cells [] 3 true)) (n4 + 1) (.cells [.slice (some ⟨n4, 0, none⟩) 0 0] 26 true)) n4 = .cells [] 3 true := (hset_ne _ _ _ (by omega)).trans (hset_at _ _ _)
    generalize (hset (hset H4 n4 (.cells [] 3 true)) (n4 + 1) (.cells [.slice (some ⟨n4, 0, none⟩) 0 0] 26 true)) = H5 at *
    have hw5 := kl.wf hw4
    have hG1 := eps_good l1 l2
    have hI5 := (hI4.kp hw4 kl).setO (v := 0) hw5 hG1 (by omega)
    have hS5 : SoundS g Fs (Os.set 0 ([(([] : List Int), (some ⟨n4, 0, none⟩ : Option Addr))], some ⟨n4 + 1, 0, none⟩)) := hS0.setO h0O fun c hc => by
      simp at hc; subst hc
      exact ⟨[], [], [], .root, .nil, rfl⟩
    have h00 : setP (Os.set 0 ([(([] : List Int), (some ⟨n4, 0, none⟩ : Option Addr))], (some ⟨n4 + 1, 0, none⟩ : Option Addr))) 0 [] := (setP_set h0O _ _ _).2 (by simp)
    have k5 : Kx (fun z => z = n + 1 + 1 ∨ n + 1 + 1 + 1 ≤ z) (n + 1 + 1 + 1) H3 (n4 + 1 + 1) (hset H5 yO (.cells ((Os.set 0 ([(([] : List Int), (some ⟨n4, 0, none⟩ : Option Addr))], (some ⟨n4 + 1, 0, none⟩ : Option Addr))).flatMap scell) 66 true)) := (k4.trans kl.kx).set _ (.inl (.inr ho0)) (by omega)
    clear hI4 hS0 hG1 l1 l2 my m0 hofl gO0 h0O hyO hyF hFg hOg hyy ih hFl hOl hw5
    generalize (Os.set 0 ([(([] : List Int), (some ⟨n4, 0, none⟩ : Option Addr))], (some ⟨n4 + 1, 0, none⟩ : Option Addr))) = Os' at *
    generalize hset H5 yO (.cells (Os'.flatMap scell) 66 true) = H6 at *
    have ho1' : yO < n4 + 1 + 1 := by omega
    have hf1' : yF < n4 + 1 + 1 := by omega
    clear ho1 hf1 k4 hw4 hS4 hG4 hle4 kl f9 hjl
    repeat (first | refine qqm rfl ?_ | ((first | refine qqr ?_ | refine qqt ?_); simp only [SS, qx9, simprocAttr, ff_23]))
    refine WK.loop (fun kk s => ∃ (b : Int) (Fs Os : List SA), OfL g H3 n most yF yO b Fs Os s ∧ b ≤ most ∧ (((wsum Fs + wsum Os : Nat) : Int) = b → ∀ i < g.rules.length, ItF g Fs i ∧ ∀ j, ItO g Fs Os i j) ∧ -1 ≤ b ∧ kk = ((most : Int) - b).toNat) (most + 1) ?_ ?_
    · exact ⟨-1, Fs, Os', ⟨k5, hI5, hf0, hf1', ho0, ho1', f3, f6, f8, f2, rfl, by omega, hS5, h00⟩, by omega, fun h => by omega, Int.le_refl _, by omega⟩
    clear k5 hI5 hf1' ho1' f3 f6 f8 f2 hS5 h00 H6 H5 Os' Fs n4 H4 f
    rintro kk ⟨f, n4, H4⟩ ⟨b, Fs, Os, ⟨k4, hI, -, hyF, -, hyO, f3, f6, f8, f2, f10, hbW, hS, h00⟩, hbm, hit, hb1, rfl⟩ ih
    simp only at k4 hI hyF hyO f3 f6 f8 f2 f10 ih
    have hw4 := k4.wf hw3
    have hle4 := k4.le
    have hwd := words10_gives (pF := some ⟨yF, 0, none⟩) (pO := some ⟨yO, 0, none⟩) hw4 hI.rF hI.rO (by have := hI.lf; omega) (by have := hI.lf; have := hI.lo; omega)
    rw [hI.lf, hI.lo] at hwd
    obtain ⟨W, hW⟩ : ∃ W, W = wsum Fs + wsum Os := ⟨_, rfl⟩
    rw [← hW] at hwd hbW hit
    repeat refine qqn rfl ?_
    (refine qqr ?_; simp only [SS, qx9, simprocAttr, f8, hI.box, ff_23])
    refine AtCall.by hwd ?_
    rintro v n5 H5 k5 rfl
    have hw5 := k5.wf hw4
    have hI5 := hI.kp hw4 k5
    have k35 := k4.trans k5.kx
    have hR5 := (k35.keep (n + 1) (by omega) (by show ¬ (n + 1 = n + 1 + 1 ∨ n + 1 + 1 + 1 ≤ n + 1); omega)).trans hR3
    by_cases hgt : b < (W : Int)
    · simp only [SS, qx9, simprocAttr, f10, hgt, ff_23]
      repeat (first | refine qqm rfl ?_ | ((first | refine qqr ?_ | refine qqt ?_); simp only [SS, qx9, simprocAttr, f8, f10, hgt, hI5.box, ff_23]))
      have hwd5 := words10_gives (pF := some ⟨yF, 0, none⟩) (pO := some ⟨yO, 0, none⟩) hw5 hI5.rF hI5.rO (by have := hI.lf; omega) (by have := hI.lf; have := hI.lo; omega)
      rw [hI.lf, hI.lo, ← hW] at hwd5
      refine AtCall.by hwd5 ?_
      rintro v n6 H6 k6 rfl
      have hw6 := k6.wf hw5
      have hI6 := hI5.kp hw5 k6
      have k36 := k35.trans k6.kx
      have hR6 := (k6.keep (n + 1) (by have := k5.le; omega)).trans hR5
      have hle5 := k5.le
      have hle6 := k6.le
      simp only [SS, qx9, simprocAttr, ff_23]
      by_cases hmW : (most : Int) < (W : Int)
      · repeat (first | refine qqm rfl ?_ | ((first | refine qqr ?_ | refine qqt ?_); simp only [SS, qx9, simprocAttr, f2, f6, f8, hmW, hI6.box, hR6, hs3, ff_23]))
        refine WK.retNil ⟨Or.inr rfl, _, res_of (x := n + 1) ?_ rfl (hset_at _ _ _) rfl, fun z hz => ?_, ?_⟩
        · exact f6
        · exact (hset_ne _ _ _ (by omega)).trans ((k36.keep z (by omega) (by show ¬ (z = n + 1 + 1 ∨ n + 1 + 1 + 1 ≤ z); omega)).trans (k13.keep z hz))
        · exact .inl ⟨some ⟨yF, 0, none⟩, some ⟨yO, 0, none⟩, rfl⟩
      · repeat (first | refine qqm rfl ?_ | ((first | refine qqr ?_ | refine qqt ?_); simp only [SS, qx9, simprocAttr, f2, hmW, ff_23]))
        refine WK.loop (fun kk s => ∃ (i : Nat) (Fs Os : List SA), OfL g H3 n most yF yO (W : Int) Fs Os s ∧ s.f 11 = .int .i64 (i : Nat) ∧ i ≤ g.rules.length ∧ (wsum Fs + wsum Os = W → ∀ i' < i, ItF g Fs i' ∧ ∀ j, ItO g Fs Os i' j) ∧ kk = g.rules.length - i) g.rules.length ?_ ?_
        · exact ⟨0, Fs, Os, ⟨k36, hI6, hf0, by show yF < n6; omega, ho0, by show yO < n6; omega, f3, f6, f8, f2, rfl, by omega, hS, h00⟩, rfl, Nat.zero_le _, fun _ i' h => absurd h (Nat.not_lt_zero _), rfl⟩
        clear k4 hI hyF hyO f3 f6 f8 f2 f10 hS h00 hw4 hle4 hI5 hI6 k35 k36 hR5 hR6 hit hbW hwd hwd5 k5 k6 hw5 hw6 hle5 hle6 hW H4 H5 H6 Fs Os f n4 n5 n6
        rintro kk ⟨f, n4, H4⟩ ⟨i, Fs, Os, ⟨k4, hI, -, hyF, -, hyO, f3, f6, f8, f2, f10, hbW, hS, h00⟩, f11, hil, hit, rfl⟩ ih2
        simp only at k4 hI hyF hyO f3 f6 f8 f2 f10 f11 ih2
        have hw4 := k4.wf hw3
        have hle4 := k4.le
        have kn4 : Kp n H n4 H4 := ⟨by omega, fun y hy => (k4.keep y (by omega) (by show ¬ (y = n + 1 + 1 ∨ n + 1 + 1 + 1 ≤ y); omega)).trans (k13.keep y hy), fun h => k4.wf (k13.wf h)⟩
        have hG4 := (k4.keep n (by omega) (by show ¬ (n = n + 1 + 1 ∨ n + 1 + 1 + 1 ≤ n); omega)).trans hG3
        by_cases hlt : i < g.rules.length
        · have hiw : IntKind.i64.wrap ((i : Int) + 1) = ((i + 1 : Nat) : Int) := by rw [wrap_in (by omega) (by omega)]; rfl
          obtain ⟨z, kz, cs, ty, own, p, e0, hz, d0, d1, d2, hp⟩ := hr.at hlt
          replace hz := ((hk.trans kn4).keep z (live_lt hw0 (live_of hz))).trans hz
          have d3 := take3 d0 d1 d2
          have d4 := len3 d2
          subst e0
          have hl0 := hi.left0 _ (List.getElem_mem hlt)
          have hl1 := hi.left1 _ (List.getElem_mem hlt)
          have hrt := hi.right _ (List.getElem_mem hlt)
          have hrtT := hi.rightT _ (List.getElem_mem hlt)
          have hr8 := hlen _ (List.getElem_mem hlt)
          have hlf := lft_eq hlt
          have hrg := rgt_eq hlt
          have sp3 : ∀ a b c : Value, AM.splice [.int .i64 (Int.ofNat 0), .slice none 0 0, .float .f64 0] 0 [a, b, c] = [a, b, c] := fun _ _ _ => rfl
          generalize g.rules[i] = ru at *
          obtain ⟨ln, hln⟩ : ∃ ln : Nat, ru.left = ln := ⟨ru.left.toNat, by omega⟩
          rw [hln] at d0 d3 hlf
          have hln1 : ln < g.vars.length := by omega
          repeat refine qqn rfl ?_
          (refine qqr ?_; simp only [SS, qx9, simprocAttr, f3, f11, hG4, gc_2, hlt, ff_23])
          repeat refine qqn rfl ?_
          refine qqm rfl ?_
          apply WK.skipSeq; apply WK.seq; apply WK.block; apply WK.seq
          (refine qqr ?_; simp only [SS, qx9, simprocAttr, f3, f11, hG4, gc_2, hlt, hz, d3, d4, sp3, ff_23])
          have kr := Kp.new n4 H4 (.cells [.int .i64 (ln : Nat), .slice p ru.right.length ru.right.length, .float .f64 ru.weight] 65 true)
          have hRu := hset_at H4 n4 (.cells [.int .i64 (ln : Nat), .slice p ru.right.length ru.right.length, .float .f64 ru.weight] 65 true)
          generalize hset H4 n4 (.cells [.int .i64 (ln : Nat), .slice p ru.right.length ru.right.length, .float .f64 ru.weight] 65 true) = H5 at *
          have hw5 := kr.wf hw4
          have hI5 := hI.kp hw4 kr
          have hlnF : ln < Fs.length := by rw [hI.lf]; exact hln1
          have hlnO : ln < Os.length := by rw [hI.lo]; exact hln1
          have gF := flat_get hlnF
          have hFl : (Fs.flatMap scell).length = g.vars.length := by rw [fm_len scell_len, hI.lf, Nat.mul_one]
          have hln1i : ((ln : Int) < (g.vars.length : Int)) = True := eq_true (by omega)
          repeat refine qqn rfl ?_
          (refine qqr ?_; simp only [SS, qx9, simprocAttr, f8, hI5.box, hRu, hI5.f, gF, hln1, hln1i, ff_23])
          have kl := (Kp.new (n4 + 1) H5 (.cells [] 3 true)).trans (Kp.new (n4 + 1 + 1) _ (.cells [.slice (some ⟨n4 + 1, 0, none⟩) 0 0] 26 true))
          have l1 : (hset (hset H5 (n4 + 1) (.cells [] 3 true)) (n4 + 1 + 1) (.cells [.slice (some ⟨n4 + 1, 0, none⟩) 0 0] 26 true)) (n4 + 1 + 1) = .cells [.slice (some ⟨n4 + 1, 0, none⟩) 0 0] 26 true := hset_at _ _ _
          have l2 : (hset (hset H5 (n4 + 1) (.cells [] 3 true)) (n4 + 1 + 1) (.cells [.slice (some ⟨n4 + 1, 0, none⟩) 0 0] 26 true)) (n4 + 1) = .cells [] 3 true := (hset_ne _ _ _ (by omega)).trans (hset_at _ _ _)
          generalize (hset (hset H5 (n4 + 1) (.cells [] 3 true)) (n4 + 1 + 1) (.cells [.slice (some ⟨n4 + 1, 0, none⟩) 0 0] 26 true)) = H6 at *
          have hw6 := kl.wf hw5
          have hG1 := eps_good l1 l2
          have hI6 := hI5.kp hw5 kl
          have hsy : ∀ s ∈ ru.right, s < (Fs.length : Int) ∧ -7 < s := fun s hs => ⟨by rw [hI6.lf]; exact hrt s hs, by
            by_cases h0 : s < 0
            · have := hrtT s hs h0; omega
            · omega⟩
          have hah := ahead_gives (pO := some ⟨yO, 0, none⟩) (nO := g.vars.length) hw6 hI6.rF (hp.mono hw0 (hk.trans (kn4.trans (kr.trans kl)))) hG1 (by omega) hsy
          rw [hI6.lf] at hah
          refine AtCall.by hah ?_
          rintro _ n7 H7 k7 ⟨p', Z, rfl, hZ, hZm⟩
          have hw7 := k7.wf hw6
          have hI7 := hI6.kp hw6 k7
          have hgF := hI7.gf _ (List.getElem_mem hlnF)
          simp only [SS, qx9, simprocAttr, ff_23]
          refine AtCall.by (both02_gives hw7 hgF.ws hZ.ws (by have := hgF.len; omega) (by have := hZ.len; omega) hgF.wl hZ.wl) ?_
          rintro _ n8 H8 k8 ⟨p'', Z2, rfl, hW2, hB⟩
          have hw8 := k8.wf hw7
          have hI8 := hI7.kp hw7 k8
          have hle7 := k7.le
          have hle8 := k8.le
          have hln2 : ln + 1 ≤ g.vars.length := hln1
          simp only [SS, qx9, simprocAttr, hI8.f, hFl, hln1, hln2, hln1i, ff_23]
          have hfs : (Fs.flatMap scell).set ln (.slice p'' Z2.length Z2.length) = (Fs.set ln (Z2, p'')).flatMap scell := flat_set hlnF ((Z2, p'') : SA)
          rw [hfs]
          have hst := stepF (p := p'') hS hlt hlf hlnF (by rw [hrg]; exact hZm) hB hbW hit
          have k9 := (k4.trans ((kr.trans (kl.trans (k7.trans k8))).kx)).set (x := yF) (.cells ((Fs.set ln (Z2, p'')).flatMap scell) 66 true) (.inl (.inr hf0)) (by omega)
          have hI9 := hI8.setF (v := ln) hw8 (good_both hgF.nd hgF.gw hZ.gw hW2 hB) (by omega)
          have hRu9 : (hset H8 yF (.cells ((Fs.set ln (Z2, p'')).flatMap scell) 66 true)) n4 = _ := (hset_ne _ _ _ (by omega)).trans (((kl.trans (k7.trans k8)).keep n4 (by omega)).trans hRu)
          have hyF8 : yF < n8 := by omega
          have hyO8 : yO < n8 := by omega
          have hn48 : n4 < n8 := by omega
          have hyO4 : yO < n4 := hyO
          clear hW2 hB hZm hZ hfs hah hgF hI8 hI7 hI6 hI5 hsy k7 k8 kl kr l1 l2 hG1 hRu hw5 hw6 hw7 hw8 hI hyF hyO gF hFl k4
          generalize hset H8 yF (.cells ((Fs.set ln (Z2, p'')).flatMap scell) 66 true) = H9 at *
          generalize Fs.set ln (Z2, p'') = Fs' at *
          obtain ⟨hS9, hbW9, hit9⟩ := hst
          repeat (first | refine qqm rfl ?_ | ((first | refine qqr ?_ | refine qqt ?_); simp only [SS, qx9, simprocAttr, ff_23]))
          refine WK.loop (fun kk s => ∃ (j : Nat) (Os : List SA), OfL g H3 n most yF yO (W : Int) Fs' Os s ∧ s.f 11 = .int .i64 (i : Nat) ∧ s.f 12 = .pointer (some ⟨n4, 0, none⟩) ∧ s.f 13 = .int .i64 (j : Nat) ∧ n4 < s.n ∧ s.H n4 = .cells [.int .i64 (ln : Nat), .slice p ru.right.length ru.right.length, .float .f64 ru.weight] 65 true ∧ j ≤ ru.right.length ∧ (wsum Fs' + wsum Os = W → (∀ i' < i, ItF g Fs' i' ∧ ∀ j, ItO g Fs' Os i' j) ∧ ItF g Fs' i ∧ ∀ j' < j, ItO g Fs' Os i j') ∧ kk = ru.right.length - j) ru.right.length ?_ ?_
          · exact ⟨0, Os, ⟨k9, hI9, hf0, hyF8, ho0, hyO8, f3, f6, f8, f2, f10, hbW9, hS9, h00⟩, f11, rfl, rfl, hn48, hRu9, Nat.zero_le _, fun h => ⟨(hit9 h).1, (hit9 h).2, fun j' h => absurd h (Nat.not_lt_zero _)⟩, rfl⟩
          clear k9 hI9 hyF8 hyO8 f3 f6 f8 f2 f10 hbW9 hS9 h00 f11 hn48 hRu9 hit9 hw4 hG4 hlnO hit hbW hS hle7 hle8 hlnF n8 H9 Os f H5 H6 H7 H8 n7 Z Z2 p' p'' Fs
          rintro kk ⟨f, n5, H5⟩ ⟨j, Os, ⟨k5, hI, -, hyF, -, hyO, f3, f6, f8, f2, f10, hbW, hS, h00⟩, f11, f12, f13, hn45, hRu, hjl, hit, rfl⟩ ih3
          simp only at k5 hI hyF hyO f3 f6 f8 f2 f10 f11 f12 f13 hn45 hRu ih3
          have hw5 := k5.wf hw3
          have kn5 : Kp n H n5 H5 := ⟨by omega, fun y hy => (k5.keep y (by omega) (by show ¬ (y = n + 1 + 1 ∨ n + 1 + 1 + 1 ≤ y); omega)).trans (k13.keep y hy), fun h => k5.wf (k13.wf h)⟩
          by_cases hj : j < ru.right.length
          · have hjw : IntKind.i64.wrap ((j : Int) + 1) = ((j + 1 : Nat) : Int) := by rw [wrap_in (by omega) (by omega)]; rfl
            have hp5 := hp.mono hw0 (hk.trans kn5)
            obtain ⟨z2, kz2, ds, tz, oz, e0, hz2, e⟩ := hp.at hj
            obtain rfl : oz = false := hro _ _ _ _ hz2
            replace hz2 := ((hk.trans kn5).keep z2 (live_lt hw0 (live_of hz2))).trans hz2
            subst e0
            have hsy := hrt _ (List.getElem_mem hj)
            have hjr : j < (rgt g i).length := by rw [hrg]; exact hj
            have hrj : (rgt g i)[j] = ru.right[j] := by simp only [hrg]
            have hsD : ∀ s ∈ ru.right.drop (j + 1), s < (Fs'.length : Int) ∧ -7 < s := fun s hs => ⟨by rw [hI.lf]; exact hrt s (List.mem_of_mem_drop hs), by
              by_cases h0 : s < 0
              · have := hrtT s (List.mem_of_mem_drop hs) h0; omega
              · omega⟩
            generalize ru.right[j] = sy at *
            by_cases h0 : 0 ≤ sy
            · obtain ⟨sn, rfl⟩ : ∃ sn : Nat, sy = sn := ⟨sy.toNat, by omega⟩
              have h0' : ((0 : Int) ≤ (sn : Int)) = True := eq_true h0
              have hlnO : ln < Os.length := by rw [hI.lo]; exact hln1
              have hsnO : sn < Os.length := by rw [hI.lo]; omega
              have hsn1 : sn < g.vars.length := by omega
              have gL := flat_get hlnO
              have gS := flat_get hsnO
              have hFl : (Os.flatMap scell).length = g.vars.length := by rw [fm_len scell_len, hI.lo, Nat.mul_one]
              have hsn1i : ((sn : Int) < (g.vars.length : Int)) = True := eq_true (by omega)
              have hj1 : j + 1 ≤ ru.right.length := hj
              have hsn2 : sn + 1 ≤ g.vars.length := hsn1
              repeat (first | refine qqm rfl ?_ | ((first | refine qqr ?_ | refine qqt ?_); simp only [SS, qx9, simprocAttr, f8, f12, f13, hI.box, hRu, hI.o, gL, gS, hln1, hln1i, hsn1, hsn1i, h0', hj, hz2, e, hjw, hj1, Bool.false_eq_true, false_implies, ff_23]))
              have hgL := hI.go _ (List.getElem_mem hlnO)
              have hgS := hI.go _ (List.getElem_mem hsnO)
              have hah := ahead_gives (pO := some ⟨yO, 0, none⟩) (nO := g.vars.length) hw5 hI.rF (RA.dropN hp5 (j + 1)) hgL (by rw [List.length_drop]; omega) hsD
              rw [hI.lf, List.length_drop] at hah
              refine AtCall.by hah ?_
              rintro _ n7 H7 k7 ⟨p', Z, rfl, hZ, hZm⟩
              have hw7 := k7.wf hw5
              have hI7 := hI.kp hw5 k7
              have hgS7 := hgS.mono hw5 k7
              simp only [SS, qx9, simprocAttr, ff_23]
              refine AtCall.by (both02_gives hw7 hgS7.ws hZ.ws (by have := hgS.len; omega) (by have := hZ.len; omega) hgS.wl hZ.wl) ?_
              rintro _ n8 H8 k8 ⟨p'', Z2, rfl, hW2, hB⟩
              have hw8 := k8.wf hw7
              have hI8 := hI7.kp hw7 k8
              have hle7 := k7.le
              have hle8 := k8.le
              simp only [SS, qx9, simprocAttr, hI8.o, hFl, hsn1, hsn2, hsn1i, ff_23]
              have hfs : (Os.flatMap scell).set sn (.slice p'' Z2.length Z2.length) = (Os.set sn (Z2, p'')).flatMap scell := flat_set hsnO ((Z2, p'') : SA)
              rw [hfs]
              obtain ⟨hS9, hbW9, h009, hit9⟩ := stepO (p := p'') hS hlt hlf hlnO hjr hrj hsnO (by rw [hrg]; exact hZm) hB hbW h00 hit
              have k9 := (k5.trans ((k7.trans k8).kx)).set (x := yO) (.cells ((Os.set sn (Z2, p'')).flatMap scell) 66 true) (.inl (.inr ho0)) (by omega)
              have hI9 := hI8.setO (v := sn) hw8 (good_both hgS.nd hgS.gw hZ.gw hW2 hB) (by omega)
              have hRu9 : (hset H8 yO (.cells ((Os.set sn (Z2, p'')).flatMap scell) 66 true)) n4 = _ := (hset_ne _ _ _ (by omega)).trans (((k7.trans k8).keep n4 (by omega)).trans hRu)
              repeat (first | refine qqm rfl ?_ | ((first | refine qqr ?_ | refine qqt ?_); simp only [SS, qx9, simprocAttr, f13, hjw, ff_23]))
              refine ih3 (ru.right.length - (j + 1)) (by omega) _ ?_
              exact ⟨j + 1, _, ⟨k9, hI9, hf0, by show yF < n8; omega, ho0, by show yO < n8; omega, f3, f6, f8, f2, f10, hbW9, hS9, h009⟩, f11, f12, rfl, by show n4 < n8; omega, hRu9, hj, hit9, rfl⟩
            · have h0' : ((0 : Int) ≤ sy) = False := eq_false h0
              repeat (first | refine qqm rfl ?_ | ((first | refine qqr ?_ | refine qqt ?_); simp only [SS, qx9, simprocAttr, f12, f13, hRu, h0', hj, hz2, e, hjw, ff_23]))
              refine ih3 (ru.right.length - (j + 1)) (by omega) _ ?_
              refine ⟨j + 1, Os, ⟨k5, hI, hf0, hyF, ho0, hyO, f3, f6, f8, f2, f10, hbW, hS, h00⟩, f11, f12, rfl, hn45, hRu, hj, fun h => ⟨(hit h).1, (hit h).2.1, fun j' hj' => ?_⟩, rfl⟩
              by_cases ej : j' = j
              · subst ej
                intro _ h1
                rw [hrj] at h1
                exact absurd h1 h0
              · exact (hit h).2.2 j' (by omega)
          · obtain rfl : j = ru.right.length := by omega
            repeat (first | refine qqm rfl ?_ | ((first | refine qqr ?_ | refine qqt ?_); simp only [SS, qx9, simprocAttr, f11, f12, f13, hRu, hj, hiw, ff_23]))
            refine ih2 (g.rules.length - (i + 1)) (by omega) _ ?_
            refine ⟨i + 1, Fs', Os, ⟨k5, hI, hf0, hyF, ho0, hyO, f3, f6, f8, f2, f10, hbW, hS, h00⟩, rfl, hlt, fun h i' hi' => ?_, rfl⟩
            by_cases ei : i' = i
            · subst ei
              exact ⟨(hit h).2.1, fun j => by
                by_cases hj : j < ru.right.length
                · exact (hit h).2.2 j hj
                · intro hj'; rw [hrg] at hj'; exact absurd hj' hj⟩
            · exact (hit h).1 i' (by omega)
        · obtain rfl : i = g.rules.length := by omega
          repeat (first | refine qqm rfl ?_ | ((first | refine qqr ?_ | refine qqt ?_); simp only [SS, qx9, simprocAttr, f3, f11, hG4, gc_2, hlt, ff_23]))
          refine ih _ ?_ _ ⟨(W : Int), Fs, Os, ⟨k4, hI, hf0, hyF, ho0, hyO, f3, f6, f8, f2, f10, hbW, hS, h00⟩, by omega, fun h => hit (by omega), by omega, rfl⟩
          omega
    · have hWb : (W : Int) = b := by omega
      simp only [SS, qx9, simprocAttr, f10, hgt, ff_23]
      repeat (first | refine qqm rfl ?_ | ((first | refine qqr ?_ | refine qqt ?_); simp only [SS, qx9, simprocAttr, f6, f8, f10, hgt, hI5.box, hR5, hs3, ff_23]))
      have hI6 := hI5.kx hw5 hR5 (by omega) ((Kx.refl _ n5 H5).set (x := n + 1) (.cells [.int .i64 2, .slice (some ⟨yF, 0, none⟩) g.vars.length g.vars.length, .slice (some ⟨yO, 0, none⟩) g.vars.length g.vars.length] 60 true) (.inl rfl) (by have := k5.le; omega))
      have hc := hit hWb
      refine WK.retNil ⟨Or.inr rfl, _, res_of (x := n + 1) ?_ rfl (hset_at _ _ _) rfl, fun z hz => ?_, ?_⟩
      · exact f6
      · exact (hset_ne _ _ _ (by omega)).trans ((k35.keep z (by omega) (by show ¬ (z = n + 1 + 1 ∨ n + 1 + 1 + 1 ≤ z); omega)).trans (k13.keep z hz))
      · exact .inr ⟨yF, yO, Fs, Os, rfl, hI6.rF, hI6.rO, hI6.lf, hI6.lo, hS, ⟨fun i hi => (hc i hi).1, fun i j hj hi h0 c h => (hc i hi).2 j hj h0 c h, h00⟩⟩
end Go.Proofs.Ytfbdababcdfjfaa

namespace Go.Proofs.Ytfbdababcdfjfaa
open Go.AM Go.AM.Fo
set_option maxRecDepth 100000
set_option maxHeartbeats 8000000 in
theorem look_gives {n r : Nat} {H : Heap} {v : Value} {g : Gram} {pF pO : Option Addr} {Fs Os : List SA} (hw : WF n H) (hg : RG H v g) (hi : InG g) (hts : g.terms.length ≤ 6) (hrl : g.rules.length ≤ 256) (hlen : ∀ r ∈ g.rules, r.right.length ≤ 24)
  (hF : RowS H pF Fs) (hO : RowS H pO Os) (hlf : Fs.length = g.vars.length) (hlo : Os.length = g.vars.length) (hr : r < g.rules.length) :
  Gives Try.prog 24 [v, sagg pF pO g.vars.length g.vars.length, .int .i64 (r : Nat)] n H fun w _ H' => ∃ p Z, w = .slice p Z.length Z.length ∧ GoodS H' p Z ∧ ∀ c, c ∈ Z.map (·.1) ↔ aheadP (setP Fs) (rgt g r) (setP Os (lft g r)) c := by
 obtain ⟨pt, pv, pr, rfl, ht, hv, hrr⟩ := hg
 refine Gives.of orders ok24 (Nat.le_of_ble_eq_true rfl) ?_
 unfold sagg
 repeat refine qqn rfl ?_
 (refine qqr ?_; simp only [SS, qx58, simprocAttr, abox, one, box_cells, box_one, ff_24])
 have k1 := (Kp.new n H (.cells (gcells pt pv pr g) 25 true)).trans (Kp.new (n + 1) _ (.cells [.int .i64 2, .slice pF g.vars.length g.vars.length, .slice pO g.vars.length g.vars.length] 60 true))
 have hG : (hset (hset H n (.cells (gcells pt pv pr g) 25 true)) (n + 1) (.cells [.int .i64 2, .slice pF g.vars.length g.vars.length, .slice pO g.vars.length g.vars.length] 60 true)) n = .cells (gcells pt pv pr g) 25 true := (hset_ne _ _ _ (by omega)).trans (hset_at _ _ _)
 have hS := hset_at (hset H n (.cells (gcells pt pv pr g) 25 true)) (n + 1) (.cells [.int .i64 2, .slice pF g.vars.length g.vars.length, .slice pO g.vars.length g.vars.length] 60 true)
 generalize (hset (hset H n (.cells (gcells pt pv pr g) 25 true)) (n + 1) (.cells [.int .i64 2, .slice pF g.vars.length g.vars.length, .slice pO g.vars.length g.vars.length] 60 true)) = H1 at *
 have hw1 := k1.wf hw
 have hF1 := hF.mono hw k1
 have hO1 := hO.mono hw k1
 obtain ⟨z, kz, cs, ty, own, p, e0, hz, d0, d1, d2, hp⟩ := (hrr.mono hw k1).at hr
 subst e0
 have hl0 := hi.left0 _ (List.getElem_mem hr)
 have hl1 := hi.left1 _ (List.getElem_mem hr)
 have hrt := hi.right _ (List.getElem_mem hr)
 have hrtT := hi.rightT _ (List.getElem_mem hr)
 have hr8 := hlen _ (List.getElem_mem hr)
 rw [lft_eq hr, rgt_eq hr]
 generalize g.rules[r] = ru at *
 obtain ⟨ln, hln⟩ : ∃ ln : Nat, ru.left = ln := ⟨ru.left.toNat, by omega⟩
 rw [hln] at d0 ⊢
 have hln1 : ln < g.vars.length := by omega
 have hln1i : ((ln : Int) < (g.vars.length : Int)) = True := eq_true (by omega)
 have hlO : ln < Os.length := by omega
 obtain ⟨zO, kO, cO, tO, oO, eO, hzO, hcO⟩ := hO1.at hlO
 subst eO
 have hgs := hO1.s _ (List.getElem_mem hlO)
 have hsy : ∀ s ∈ ru.right, s < (Fs.length : Int) ∧ -7 < s := fun s hs => ⟨by rw [hlf]; exact hrt s hs, by
  by_cases h0 : s < 0
  ·have := hrtT s hs h0; omega
  ·omega⟩
 repeat refine qqn rfl ?_
 (refine qqr ?_; simp only [SS, qx58, simprocAttr, hS, hG, gc_2, hr, hz, d0, d1, hzO, hcO, hln1, hln1i, ff_24])
 have hah := ahead_gives (pO := some ⟨zO, kO, none⟩) (nO := g.vars.length) hw1 hF1 hp hgs (by omega) hsy
 rw [hlf] at hah
 refine AtCall.by hah ?_
 rintro _ n2 H2 k2 ⟨p2, Z, rfl, hZ, hZm⟩
 simp only [SS, qx58, simprocAttr, ff_24]
 repeat (first | refine qqm rfl ?_ | ((first | refine qqr ?_ | refine qqt ?_); simp only [SS, qx58, simprocAttr, ff_24]))
 first | refine qqf ?_ ?_ | refine qqg ?_ ?_
 ·exact (k1.trans k2).keep
 ·simp only [packed, qv, Nat.reduceEqDiff, ↓reduceIte, ff_24]
  refine ⟨p2, Z, rfl, hZ, fun c => ?_⟩
  rw [hZm]
  have hE : (fun c => c ∈ Os[ln].1.map (·.1)) = setP Os (ln : Int) := by funext c; exact propext (by rw [setP_at hlO])
  rw [hE]
end Go.Proofs.Ytfbdababcdfjfaa

namespace Go.Proofs.Ytfbdababcdfjfaa
open Go.AM
set_option maxRecDepth 100000
def apart (vd vl : Value) : Prop := ∀ y z m k, vd = .slice (some ⟨y, 0, none⟩) m m → vl = .slice (some ⟨z, 0, none⟩) k k → y ≠ z
end Go.Proofs.Ytfbdababcdfjfaa

namespace Go.Proofs.Ytfbdababcdfjfaa
open Go.AM
set_option maxRecDepth 100000
end Go.Proofs.Ytfbdababcdfjfaa

namespace Go.Proofs.Ytfbdababcdfjfaa
open Go.AM
set_option maxRecDepth 100000
end Go.Proofs.Ytfbdababcdfjfaa

namespace Go.Proofs.Ytfbdababcdfjfaa
open Go.AM
set_option maxRecDepth 100000
end Go.Proofs.Ytfbdababcdfjfaa

namespace Go.Proofs.Ytfbdababcdfjfaa
open Go.AM
set_option maxRecDepth 100000
end Go.Proofs.Ytfbdababcdfjfaa
