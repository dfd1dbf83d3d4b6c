/- A part of a proof. Its conditions: none. -/
import Derived.Test.YtddpnhhgmfaloaaDoorAmERd
import Derived.Test.YtddpnhhgmfaloaaDoorAmELine
set_option linter.all false
namespace Go.Proofs.YtddpnhhgmfaloaaDoor
open Go.AM Ieee
set_option maxRecDepth 100000

theorem drop_idem (p : UInt8 → Bool) (l : List UInt8) : (l.dropWhile p).dropWhile p = l.dropWhile p := by
  induction l with
  | nil => rfl
  | cons a l ih =>
    by_cases h : p a = true
    · simp [h, ih]
    · simp [h]
theorem trim_split (t : List UInt8) : ∃ z, t = trimZ t ++ List.replicate z 48 := by
  refine ⟨(t.reverse.takeWhile (· == 48)).length, ?_⟩
  have h1 : t.reverse = t.reverse.takeWhile (· == 48) ++ t.reverse.dropWhile (· == 48) := List.takeWhile_append_dropWhile.symm
  have h2 : t.reverse.takeWhile (· == 48) = List.replicate (t.reverse.takeWhile (· == 48)).length 48 := by
    refine List.eq_replicate_of_mem fun b hb => ?_
    have : ∀ l : List UInt8, ∀ b ∈ l.takeWhile (· == 48), b = 48 := by
      intro l
      induction l with
      | nil => intro b hb; simp at hb
      | cons a l ih =>
        intro b hb
        by_cases h : a = 48
        · subst h
          simp only [List.takeWhile_cons, beq_self_eq_true, if_true, List.mem_cons] at hb
          rcases hb with rfl | hb
          · rfl
          · exact ih b hb
        · simp [h] at hb
    exact this _ b hb
  have h3 := congrArg List.reverse h1
  rw [List.reverse_reverse, List.reverse_append] at h3
  rw [h2, List.reverse_replicate] at h3
  exact h3
theorem trim_idem (t : List UInt8) : trimZ (trimZ t) = trimZ t := by
  unfold trimZ
  rw [List.reverse_reverse, drop_idem]
theorem valL_zeros (l : List UInt8) (z : Nat) : valL (l ++ List.replicate z 48) = valL l * 10 ^ z := by
  induction z with
  | zero => simp
  | succ z ih =>
    have t48 : UInt8.toNat 48 - 48 = 0 := rfl
    rw [List.replicate_succ', ← List.append_assoc, valL_snoc, ih, Nat.pow_succ, t48, Nat.add_zero, Nat.mul_comm 10, Nat.mul_assoc]

theorem trim_facts {t : List UInt8} (ht : t.all isD = true) (tl : t.length ≤ 6) : (trimZ t).all isD = true ∧ (trimZ t).length ≤ t.length := by
  obtain ⟨z, hz⟩ := trim_split t
  have h1 := congrArg List.length hz
  rw [List.length_append] at h1
  refine ⟨?_, by omega⟩
  rw [hz, List.all_append, Bool.and_eq_true] at ht
  exact ht.1

theorem digsB_of' {l : List UInt8} {lo hi : Nat} (h : l.all isD = true) (h1 : lo ≤ l.length) (h2 : l.length ≤ hi) : digsB l lo hi = true := by
  unfold digsB
  rw [h, decide_eq_true (by omega), decide_eq_true (by omega)]; rfl
theorem noDot {c : List UInt8} (h : c.all isD = true) : hasDot c = false := by
  unfold hasDot
  rw [Bool.eq_false_iff]
  intro hc
  have := List.all_eq_true.1 h 46 (by simpa using hc)
  exact absurd this (by decide)
theorem point_parts {a t : List UInt8} (h : a.all isD = true) : headL (a ++ 46 :: t) = a ∧ tailL (a ++ 46 :: t) = t ∧ hasDot (a ++ 46 :: t) = true := by
  induction a with
  | nil => exact ⟨rfl, rfl, rfl⟩
  | cons x a ih =>
    rw [List.all_cons, Bool.and_eq_true] at h
    obtain ⟨h1, h2, h3⟩ := ih h.2
    have hx : (x != 46) = true := by
      simp; intro e; rw [e] at h; exact absurd h.1 (by decide)
    unfold headL tailL hasDot at *
    refine ⟨?_, ?_, ?_⟩
    · simp only [List.cons_append, List.takeWhile_cons, hx, if_true, h1]
    · simp only [List.cons_append, List.dropWhile_cons, hx, if_true, h2]
    · simp only [List.cons_append, List.contains_cons, h3, Bool.or_true]

/-- THE SHORTEST TEXT reads as the text did. -/
theorem short_parts {l : List UInt8} (h : okE l = true) : okE (shortL l) = true ∧ hasMinus (shortL l) = hasMinus l ∧ hs (shortL l) = hs l ∧ ts (shortL l) = trimZ (ts l) := by
  obtain ⟨hda, hd1, hd2, hl0, hta, htl6, _⟩ := ok_facts h
  obtain ⟨tza, tzl⟩ := trim_facts hta htl6
  have hsh := short_eq h
  generalize hs l = a at *
  generalize ts l = t at *
  have hane : ∃ x a', a = x :: a' := by
    cases a with
    | nil => simp at hd1
    | cons x a' => exact ⟨x, a', rfl⟩
  have hm : hasMinus (shortL l) = hasMinus l ∧ cutM (shortL l) = a ++ fracL t := by
    rw [hsh]
    cases hmn : hasMinus l with
    | true =>
      refine ⟨rfl, ?_⟩
      unfold cutM
      have : hasMinus (sgn true ++ a ++ fracL t) = true := rfl
      rw [this, if_pos rfl]; rfl
    | false =>
      obtain ⟨x, a', rfl⟩ := hane
      have hx : isD x = true := List.all_eq_true.1 hda x (List.mem_cons_self ..)
      have h0 : hasMinus (sgn false ++ (x :: a') ++ fracL t) = false := by
        show (some x == some 45) = false
        simp
        intro e
        rw [e] at hx
        exact absurd hx (by decide)
      refine ⟨h0, ?_⟩
      unfold cutM
      rw [h0, if_neg (by simp)]; rfl
  obtain ⟨hm1, hm2⟩ := hm
  have hdig : digsB a 1 9 = true := by
    have := digsB_of' hda hd1 hd2
    exact this
  by_cases htz : trimZ t = []
  · have hc : cutM (shortL l) = a := by rw [hm2]; unfold fracL; rw [if_pos htz, List.append_nil]
    have hdot : hasDot a = false := noDot hda
    obtain ⟨b1, b2⟩ := head_all a hdot
    have e1 : hs (shortL l) = a := by unfold hs; rw [hc, b1]
    have e2 : ts (shortL l) = [] := by unfold ts; rw [hc, b2]
    refine ⟨?_, hm1, e1, by rw [e2, htz]⟩
    unfold okE
    rw [e1, hc, hdot, hdig, hl0]; rfl
  · have hc : cutM (shortL l) = a ++ 46 :: trimZ t := by rw [hm2]; unfold fracL; rw [if_neg htz]
    obtain ⟨b1, b2, b3⟩ := point_parts (t := trimZ t) hda
    have e1 : hs (shortL l) = a := by unfold hs; rw [hc, b1]
    have e2 : ts (shortL l) = trimZ t := by unfold ts; rw [hc, b2]
    refine ⟨?_, hm1, e1, e2⟩
    have hne : 1 ≤ (trimZ t).length := by
      cases hq : trimZ t with
      | nil => exact absurd hq htz
      | cons x y => simp
    unfold okE
    have hd6 : digsB (trimZ t) 1 6 = true := digsB_of' (lo := 1) (hi := 6) tza hne (by omega)
    rw [e1, e2, hc, b3, hdig, hl0, hd6]; rfl

theorem short_len {l : List UInt8} : (shortL l).length ≤ l.length := by
  cases h : okE l with
  | false => unfold shortL; rw [h, if_neg (by simp)]; exact Nat.le_refl _
  | true =>
    obtain ⟨hda, hd1, hd2, hl0, hta, htl6, hdot⟩ := ok_facts h
    obtain ⟨_, tzl⟩ := trim_facts hta htl6
    rw [short_eq h]
    have hl : l = sgn (hasMinus l) ++ cutM l := by
      unfold cutM sgn
      cases hm : hasMinus l with
      | false => rfl
      | true =>
        unfold hasMinus at hm
        cases l with
        | nil => simp at hm
        | cons x l => simp at hm; subst hm; rfl
    have h2 := congrArg List.length hl
    rw [List.length_append] at h2
    rw [List.length_append, List.length_append, h2]
    rcases hdot with ⟨hd, _⟩ | ⟨hd, ht⟩
    · have := congrArg List.length (head_spec _ hd)
      simp only [List.length_append, List.length_cons] at this
      have e1 : (headL (cutM l)).length = (hs l).length := rfl
      have e2 : (tailL (cutM l)).length = (ts l).length := rfl
      unfold fracL
      split
      · simp; omega
      · simp; omega
    · have e1 : (cutM l).length = (hs l).length := by
        have := (head_all _ hd).1
        unfold hs; rw [this]
      have : fracL (ts l) = [] := by rw [ht]; rfl
      rw [this]
      simp; omega

theorem short_idem {l : List UInt8} (h : okE l = true) : shortL (shortL l) = shortL l := by
  obtain ⟨h1, h2, h3, h4⟩ := short_parts h
  rw [short_eq h1, h2, h3, h4, short_eq h]
  congr 1
  unfold fracL
  rw [trim_idem]

/-- The same number, the same double. -/
theorem quo_eq {a b c d : List UInt8} (ha : a.all isD = true) (hb : b.all isD = true) (hc : c.all isD = true) (hd : d.all isD = true) (la : a.length ≤ 9) (lb : b.length ≤ 6) (lc : c.length ≤ 9) (ld : d.length ≤ 6)
    (h : valL (a ++ b) * 10 ^ d.length = valL (c ++ d) * 10 ^ b.length) : quo a b = quo c d := by
  have bound : ∀ {a b : List UInt8}, a.all isD = true → b.all isD = true → a.length ≤ 9 → valL (a ++ b) < 10 ^ 9 * 10 ^ b.length := by
    intro a b ha hb la
    have hlt := valL_lt (a ++ b) (by rw [List.all_append, ha, hb]; rfl)
    refine Nat.lt_of_lt_of_le hlt ?_
    rw [← Nat.pow_add]
    exact Nat.pow_le_pow_right (by omega) (by rw [List.length_append]; omega)
  have p1 : 0 < 10 ^ d.length := Nat.pow_pos (by omega)
  have p2 : 0 < 10 ^ b.length := Nat.pow_pos (by omega)
  unfold quo
  by_cases h0 : valL (a ++ b) = 0
  · have h0' : valL (c ++ d) = 0 := by
      rw [h0, Nat.zero_mul] at h
      rcases Nat.mul_eq_zero.1 h.symm with h | h
      · exact h
      · omega
    have z1 := eq_of_beq (List.all_eq_true.1 zero_div b.length (List.mem_range.2 (by omega)))
    have z2 := eq_of_beq (List.all_eq_true.1 zero_div d.length (List.mem_range.2 (by omega)))
    rw [h0, h0', z1, z2]
  · have h0' : valL (c ++ d) ≠ 0 := by
      intro e
      rw [e, Nat.zero_mul] at h
      rcases Nat.mul_eq_zero.1 h with h | h
      · exact h0 h
      · omega
    obtain ⟨M, t, e1, m1, m2, _, _, n1⟩ := div_ten (n := valL (a ++ b)) (k := b.length) (by omega) lb (bound ha hb la)
    obtain ⟨M', t', e2, m1', m2', _, _, n2⟩ := div_ten (n := valL (c ++ d)) (k := d.length) (by omega) ld (bound hc hd lc)
    obtain ⟨eM, et⟩ := near_unique p2 p1 h n1 n2 ⟨m1, m2⟩ ⟨m1', m2'⟩
    rw [e1, e2, eM, et]

theorem fw_short {l : List UInt8} (h : okE l = true) : fwE (shortL l) = fwE l := by
  obtain ⟨hda, hd1, hd2, hl0, hta, htl6, _⟩ := ok_facts h
  obtain ⟨h1, h2, h3, h4⟩ := short_parts h
  obtain ⟨tza, tzl⟩ := trim_facts hta htl6
  unfold fwE
  rw [h2, h3, h4]
  congr 1
  refine quo_eq hda tza hda hta hd2 (by omega) hd2 htl6 ?_
  obtain ⟨z, hz⟩ := trim_split (ts l)
  have hlen := congrArg List.length hz
  rw [List.length_append, List.length_replicate] at hlen
  have hv : valL (hs l ++ ts l) = valL (hs l ++ trimZ (ts l)) * 10 ^ z := by
    rw [← valL_zeros, List.append_assoc, ← hz]
  rw [hv, hlen, Nat.pow_add]
  ac_rfl

theorem trim_ex (f : Nat → Nat) (n : Nat) : ∃ nz, nz ≤ n ∧ (∀ q, nz ≤ q → q < n → f q = 0) ∧ (nz = 0 ∨ f (nz - 1) ≠ 0) := by
  induction n with
  | zero => exact ⟨0, Nat.le_refl _, fun q h1 h2 => by omega, .inl rfl⟩
  | succ n ih =>
    by_cases h : f n = 0
    · obtain ⟨nz, a, b, c⟩ := ih
      refine ⟨nz, by omega, fun q h1 h2 => ?_, c⟩
      by_cases e : q = n
      · rw [e]; exact h
      · exact b q h1 (by omega)
    · exact ⟨n + 1, Nat.le_refl _, fun q h1 h2 => by omega, .inr h⟩

/-- What is printed tells the number: of two texts that are read as one the shortest text is one. -/
theorem fw_inj {l m : List UInt8} (hl : okE l = true) (hm : okE m = true) (h : fwE l = fwE m) : shortL l = shortL m := by
  have wordinj : ∀ {neg neg' : Bool} {E F E' F' : Nat}, E ≤ 2046 → E' ≤ 2046 → F < 4503599627370496 → F' < 4503599627370496 → word neg E F = word neg' E' F' → neg = neg' ∧ E = E' ∧ F = F' := by
    intro neg neg' E F E' F' h1 h2 h3 h4 h5
    unfold word at h5
    cases neg <;> cases neg' <;> simp at h5 ⊢ <;> omega
  obtain ⟨hda, hd1, hd2, hl0, hta, htl6, _⟩ := ok_facts hl
  obtain ⟨hda', hd1', hd2', hl0', hta', htl6', _⟩ := ok_facts hm
  by_cases h0 : valL (hs l ++ ts l) = 0
  · obtain ⟨e1, e2, e3⟩ := fwE_zero hl h0
    by_cases h0' : valL (hs m ++ ts m) = 0
    · obtain ⟨e1', e2', e3'⟩ := fwE_zero hm h0'
      rw [e1, e1'] at h
      obtain ⟨hn, _⟩ := wordinj (by omega) (by omega) (by omega) (by omega) h
      rw [short_eq hl, short_eq hm, hn, e2, e2']
      unfold fracL
      rw [e3, e3']
    · obtain ⟨M, t, e1', a, b, c, d, _⟩ := fwE_word hm h0'
      rw [e1, e1'] at h
      obtain ⟨_, hE, _⟩ := wordinj (by omega) (by omega) (by omega) (by omega) h
      omega
  · obtain ⟨M, t, e1, a, b, c, d, nr⟩ := fwE_word hl h0
    by_cases h0' : valL (hs m ++ ts m) = 0
    · obtain ⟨e1', e2', e3'⟩ := fwE_zero hm h0'
      rw [e1, e1'] at h
      obtain ⟨_, hE, _⟩ := wordinj (by omega) (by omega) (by omega) (by omega) h
      omega
    · obtain ⟨M', t', e1', a', b', c', d', nr'⟩ := fwE_word hm h0'
      rw [e1, e1'] at h
      obtain ⟨hn, hE, hF⟩ := wordinj (by omega) (by omega) (by omega) (by omega) h
      have hMM : M' = M := by omega
      have htt : t' = t := by omega
      subst hMM htt
      obtain ⟨P, sh, mn, hi, p1, p2, _, _, hhi, _, hpow, hnot, hsv, _, _, _, _, hd1x⟩ := short_math htl6 c d a b nr
      obtain ⟨P', sh', mn', hi', p1', p2', _, _, hhi', _, hpow', hnot', hsv', _, _, _, _, hd2x⟩ := short_math htl6' c d a b nr'
      have hPP : P' = P := by
        by_cases hpw : M' * 2048 = 9223372036854775808
        · have x := (hpow hpw).1; have y := (hpow' hpw).1; omega
        · have x := (hnot hpw).1; have y := (hnot' hpw).1; omega
      subst hPP
      have hss : sh' = sh := by omega
      subst hss
      rw [hhi] at hd1x
      rw [hhi', hd1x] at hd2x
      have hval : valL (hs l ++ ts l) * 10 ^ (P' - 1 - (ts l).length) = valL (hs m ++ ts m) * 10 ^ (P' - 1 - (ts m).length) := hd2x
      have hb6 : valL (hs l ++ ts l) * 10 ^ (6 - (ts l).length) = valL (hs m ++ ts m) * 10 ^ (6 - (ts m).length) := by
        have hp : 0 < 10 ^ (P' - 7) := Nat.pow_pos (by omega)
        refine Nat.eq_of_mul_eq_mul_right hp ?_
        rw [Nat.mul_assoc, Nat.mul_assoc, ← Nat.pow_add, ← Nat.pow_add, show 6 - (ts l).length + (P' - 7) = P' - 1 - (ts l).length by omega, show 6 - (ts m).length + (P' - 7) = P' - 1 - (ts m).length by omega]
        exact hval
      have hbd : valL (hs l ++ ts l) * 10 ^ (6 - (ts l).length) < 9223372036854775808 := by
        have hlt := valL_lt (hs l ++ ts l) (by rw [List.all_append, hda, hta]; rfl)
        have h1 : 10 ^ (hs l ++ ts l).length * 10 ^ (6 - (ts l).length) ≤ 10 ^ 15 := by
          rw [← Nat.pow_add]
          exact Nat.pow_le_pow_right (by omega) (by rw [List.length_append]; omega)
        have h2 := Nat.mul_lt_mul_of_pos_right hlt (Nat.pow_pos (n := 6 - (ts l).length) (show 0 < 10 by omega))
        omega
      obtain ⟨nz, x1, x2, x3⟩ := trim_ex (lft (valL (hs l ++ ts l) * 10 ^ (6 - (ts l).length)) (numD (valL (hs l ++ ts l) * 10 ^ (6 - (ts l).length)))) (numD (valL (hs l ++ ts l) * 10 ^ (6 - (ts l).length)))
      have o1 := out_short (neg := hasMinus l) (q := 6) (nz := nz) hda hd1 hl0 hta htl6 h0 ⟨x1, x2, x3⟩ hbd
      rw [hb6] at hbd x1 x2 x3
      have o2 := out_short (neg := hasMinus m) (q := 6) (nz := nz) hda' hd1' hl0' hta' htl6' h0' ⟨x1, x2, x3⟩ hbd
      rw [short_eq hl, short_eq hm, ← o1, ← o2, hb6, hn]

theorem short_chars {l : List UInt8} (h : okE l = true) : ∀ b ∈ shortL l, isD b = true ∨ b = 45 ∨ b = 46 := by
  obtain ⟨hda, hd1, hd2, hl0, hta, htl6, _⟩ := ok_facts h
  obtain ⟨tza, tzl⟩ := trim_facts hta htl6
  intro b hb
  rw [short_eq h, List.mem_append, List.mem_append] at hb
  rcases hb with (hb | hb) | hb
  · unfold sgn at hb
    split at hb
    · simp at hb; exact .inr (.inl hb)
    · simp at hb
  · exact .inl (List.all_eq_true.1 hda b hb)
  · unfold fracL at hb
    split at hb
    · simp at hb
    · rcases List.mem_cons.1 hb with hb | hb
      · exact .inr (.inr hb)
      · exact .inl (List.all_eq_true.1 tza b hb)
theorem key_inj {a b : Nat} (ha : a < 18446744073709551616) (hb : b < 18446744073709551616) (hn : nanB b = false) (h : keyZ a = keyZ b) : a = b := by
  rw [nanB_eq hb] at hn
  have hn2 := of_decide_eq_false hn
  rw [key_val ha, key_val hb] at h
  split at h <;> split at h <;> (try split at h) <;> (try split at h) <;> omega
end Go.Proofs.YtddpnhhgmfaloaaDoor
