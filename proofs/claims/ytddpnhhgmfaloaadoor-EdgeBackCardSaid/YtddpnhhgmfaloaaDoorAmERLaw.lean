/- A part of a proof. Its conditions: none. -/
import Derived.Test.YtddpnhhgmfaloaaDoorAmENum
set_option linter.all false
namespace Go.Proofs.YtddpnhhgmfaloaaDoor
open Go.AM Ieee
set_option maxRecDepth 100000

theorem snoc_ind {p : List UInt8 → Prop} (h0 : p []) (hs : ∀ l b, p l → p (l ++ [b])) (l : List UInt8) : p l := by
  have : ∀ k, ∀ l : List UInt8, l.length = k → p l := by
    intro k
    induction k with
    | zero => intro l hl; rw [List.length_eq_zero_iff.1 hl]; exact h0
    | succ k ih =>
      intro l hl
      have hne : l ≠ [] := by intro e; rw [e] at hl; cases hl
      rw [← List.dropLast_concat_getLast hne]
      exact hs _ _ (ih _ (by rw [List.length_dropLast]; omega))
  exact this _ l rfl

/-- A digit of a list is that of its number. -/
theorem dig_at (l : List UInt8) : l.all isD = true → ∀ i (b : UInt8), l[i]? = some b → valL l / 10 ^ (l.length - 1 - i) % 10 = b.toNat - 48 := by
  refine snoc_ind (p := fun l => l.all isD = true → ∀ i (b : UInt8), l[i]? = some b → valL l / 10 ^ (l.length - 1 - i) % 10 = b.toNat - 48) ?_ ?_ l
  · intro _ i b h; simp at h
  · intro l x ih hall i b hb
    rw [List.all_append, Bool.and_eq_true] at hall
    have hx : isD x = true := by simpa using hall.2
    have hx2 := (isD_iff x).1 hx
    rw [valL_snoc, List.length_append]
    simp only [List.length_cons, List.length_nil]
    by_cases hi : i < l.length
    · rw [List.getElem?_append_left hi] at hb
      have := ih hall.1 i b hb
      rw [show l.length + (0 + 1) - 1 - i = (l.length - 1 - i) + 1 by omega, Nat.pow_succ', ← Nat.div_div_eq_div_mul, show (10 * valL l + (x.toNat - 48)) / 10 = valL l by omega]
      exact this
    · rw [List.getElem?_append_right (by omega)] at hb
      have hi0 : i - l.length = 0 := by
        cases h : i - l.length with
        | zero => rfl
        | succ k => rw [h] at hb; simp at hb
      rw [hi0] at hb
      simp at hb
      subst hb
      rw [show l.length + (0 + 1) - 1 - i = 0 by omega, Nat.pow_zero, Nat.div_one]
      omega

theorem chr_at {l : List UInt8} (h : l.all isD = true) {i : Nat} {b : UInt8} (hb : l[i]? = some b) : UInt8.ofNat (48 + valL l / 10 ^ (l.length - 1 - i) % 10) = b := by
  have hd := dig_at l h i b hb
  have hx := (isD_iff b).1 (List.all_eq_true.1 h b (List.mem_of_getElem? hb))
  rw [hd, show 48 + (b.toNat - 48) = b.toNat by omega]
  exact UInt8.ofNat_toNat

/-- The number of digits, once. -/
theorem len_unique {n a b : Nat} (h1 : 10 ^ a ≤ n) (h2 : n < 10 ^ (b + 1)) : a ≤ b := by
  have : 10 ^ a < 10 ^ (b + 1) := Nat.lt_of_le_of_lt h1 h2
  have := (Nat.pow_lt_pow_iff_right (a := 10) (by omega)).1 this
  omega

theorem valL_append (h t : List UInt8) : valL (h ++ t) = valL h * 10 ^ t.length + valL t := by
  refine snoc_ind (p := fun t => valL (h ++ t) = valL h * 10 ^ t.length + valL t) ?_ ?_ t
  · simp [valL]
  · intro t b ih
    rw [← List.append_assoc, valL_snoc, ih, valL_snoc, List.length_append]
    simp only [List.length_cons, List.length_nil, Nat.zero_add, Nat.pow_succ]
    rw [Nat.mul_add, ← Nat.mul_assoc, Nat.mul_comm 10 (valL h), Nat.mul_assoc (valL h) 10, Nat.mul_comm 10 (10 ^ _)]
    omega
theorem valL_ge {a : UInt8} {l : List UInt8} (h : (a :: l).all isD = true) (ha : a ≠ 48) : 10 ^ l.length ≤ valL (a :: l) := by
  have hx : isD a = true := List.all_eq_true.1 h a (List.mem_cons_self ..)
  have hx2 := (isD_iff a).1 hx
  have ha' : a.toNat ≠ 48 := fun e => ha (UInt8.toNat_inj.1 (by rw [e]; rfl))
  have : valL (a :: l) = valL [a] * 10 ^ l.length + valL l := valL_append [a] l
  rw [this]
  have h1 : valL [a] = a.toNat - 48 := by simp [valL]
  rw [h1]
  have := Nat.mul_le_mul_right (10 ^ l.length) (show 1 ≤ a.toNat - 48 by omega)
  omega

/-- The digits of N * 10 ^ s. -/
theorem lft_spec {N s : Nat} (hN : N ≠ 0) (hb : N * 10 ^ s < 9223372036854775808) :
    ∃ nn, 1 ≤ nn ∧ numD (N * 10 ^ s) = nn + s ∧ 10 ^ (nn - 1) ≤ N ∧ N < 10 ^ nn ∧ (∀ i, i < nn → lft (N * 10 ^ s) (nn + s) i = N / 10 ^ (nn - 1 - i) % 10) ∧ (∀ i, nn ≤ i → i < nn + s → lft (N * 10 ^ s) (nn + s) i = 0) := by
  have hp : 0 < 10 ^ s := Nat.pow_pos (by omega)
  have hd0 : N * 10 ^ s ≠ 0 := Nat.mul_ne_zero hN (by omega)
  obtain ⟨a, b, c, _⟩ := numD_spec hd0 hb
  obtain ⟨nd, hnd⟩ : ∃ nd, numD (N * 10 ^ s) = nd := ⟨_, rfl⟩
  rw [hnd] at a b c ⊢
  have hs : s < nd := by
    have : 10 ^ s ≤ N * 10 ^ s := Nat.le_mul_of_pos_left _ (by omega)
    exact (Nat.pow_lt_pow_iff_right (a := 10) (by omega)).1 (Nat.lt_of_le_of_lt this b)
  refine ⟨nd - s, by omega, by omega, ?_, ?_, ?_, ?_⟩
  · rw [show nd - 1 = (nd - s - 1) + s by omega, Nat.pow_add] at a
    exact Nat.le_of_mul_le_mul_right a hp
  · rw [show nd = (nd - s) + s by omega, Nat.pow_add] at b
    exact Nat.lt_of_mul_lt_mul_right b
  · intro i hi
    unfold lft
    rw [show nd - s + s - 1 - i = s + (nd - s - 1 - i) by omega, Nat.pow_add, ← Nat.div_div_eq_div_mul, Nat.mul_div_cancel _ hp]
  · intro i hi hi2
    unfold lft
    rw [show 10 ^ s = 10 ^ (s - (nd - s + s - 1 - i)) * 10 ^ (nd - s + s - 1 - i) by rw [← Nat.pow_add]; congr 1; omega, ← Nat.mul_assoc, Nat.mul_div_cancel _ (Nat.pow_pos (by omega))]
    rw [show s - (nd - s + s - 1 - i) = (s - (nd - s + s - 1 - i) - 1) + 1 by omega, Nat.pow_succ, ← Nat.mul_assoc, Nat.mul_mod_left]

theorem range_rep (f : Nat → UInt8) (m n : Nat) (h : m ≤ n) (c : UInt8) : (List.range m).map f ++ List.replicate (n - m) c = (List.range n).map fun i => if i < m then f i else c := by
  apply List.ext_getElem?
  intro i
  by_cases him : i < m
  · rw [List.getElem?_append_left (by simpa using him), List.getElem?_map, List.getElem?_map, List.getElem?_range him, List.getElem?_range (by omega)]
    simp [him]
  · rw [List.getElem?_append_right (by simp; omega), List.length_map, List.length_range, List.getElem?_replicate, List.getElem?_map]
    by_cases hin : i < n
    · rw [if_pos (by omega), List.getElem?_range hin]; simp [him]
    · rw [if_neg (by omega), List.getElem?_eq_none (by simp; omega)]; rfl
theorem rep_range (f : Nat → UInt8) (m n : Nat) (c : UInt8) : List.replicate m c ++ (List.range n).map f = (List.range (m + n)).map fun i => if i < m then c else f (i - m) := by
  apply List.ext_getElem?
  intro i
  by_cases him : i < m
  · rw [List.getElem?_append_left (by simpa using him), List.getElem?_map, List.getElem?_replicate, if_pos him, List.getElem?_range (by omega)]
    simp [him]
  · rw [List.getElem?_append_right (by simp; omega), List.length_replicate, List.getElem?_map, List.getElem?_map]
    by_cases hin : i < m + n
    · rw [List.getElem?_range hin, List.getElem?_range (by omega)]; simp [him]
    · rw [List.getElem?_eq_none (by simp; omega), List.getElem?_eq_none (by simp; omega)]; rfl
theorem map_range_eq {l : List UInt8} {f : Nat → UInt8} {n : Nat} (hn : n = l.length) (h : ∀ i b, l[i]? = some b → f i = b) : (List.range n).map f = l := by
  subst hn
  apply List.ext_getElem?
  intro i
  rw [List.getElem?_map]
  by_cases hi : i < l.length
  · rw [List.getElem?_range hi, List.getElem?_eq_getElem hi]
    exact congrArg some (h i _ (List.getElem?_eq_getElem hi))
  · rw [List.getElem?_eq_none (by simp; omega), List.getElem?_eq_none (by omega)]; rfl

def sgn (neg : Bool) : List UInt8 := if neg then [45] else []
def fracL (t : List UInt8) : List UInt8 := if trimZ t = [] then [] else 46 :: trimZ t

/-- THE PLAIN LAW: what is printed is the shortest text. -/
theorem out_short {h t : List UInt8} {neg : Bool} {q nz : Nat} (hda : h.all isD = true) (hd1 : 1 ≤ h.length) (hlead : lead0 h = false) (hta : t.all isD = true) (htq : t.length ≤ q) (hN : valL (h ++ t) ≠ 0)
    (htrim : Trim (valL (h ++ t) * 10 ^ (q - t.length)) nz) (hdb : valL (h ++ t) * 10 ^ (q - t.length) < 9223372036854775808) :
    (outS neg (valL (h ++ t) * 10 ^ (q - t.length)) nz q).map UInt8.ofNat = sgn neg ++ h ++ fracL t := by
  obtain ⟨nn, hn1, hnd, hnlo, hnhi, hl1, hl2⟩ := lft_spec hN hdb
  unfold Trim at htrim
  unfold outS
  rw [hnd] at htrim ⊢
  obtain ⟨t1, t2, t3⟩ := htrim
  generalize valL (h ++ t) * 10 ^ (q - t.length) = d at *
  have hall : (h ++ t).all isD = true := by rw [List.all_append, hda, hta]; rfl
  have hchr := fun i b => chr_at (l := h ++ t) hall (i := i) (b := b)
  have hdig := dig_at (h ++ t) hall
  have hlenL : (h ++ t).length = h.length + t.length := List.length_append
  rw [hlenL] at hchr hdig
  generalize hNN : valL (h ++ t) = N at *
  have hnz : nz ≤ nn := by
    refine Decidable.byContradiction fun hlt => ?_
    rcases t3 with h0 | h0
    · omega
    · exact h0 (hl2 _ (by omega) (by omega))
  have hfmt : ∀ dp prec : Int, (fmtS neg (fun i => 48 + lft d (nn + (q - t.length)) i) nz dp prec).map UInt8.ofNat =
      sgn neg ++ (intS (fun i => 48 + lft d (nn + (q - t.length)) i) nz dp).map UInt8.ofNat ++ (if 0 < prec then (fracS (fun i => 48 + lft d (nn + (q - t.length)) i) nz dp).map UInt8.ofNat else []) := by
    intro dp prec
    unfold fmtS sgn
    rw [List.map_append, List.map_append]
    congr 1
    · congr 1
      cases neg <;> rfl
    · split <;> rfl
  rw [hfmt]
  have h48 : UInt8.ofNat 48 = 48 := rfl
  cases h with
  | nil => simp at hd1
  | cons a h =>
    by_cases ha : a = 48
    · -- nought ahead of the point
      have hh : h = [] := by
        unfold lead0 at hlead
        rw [ha] at hlead
        simp at hlead
        cases h with
        | nil => rfl
        | cons b h => simp at hlead
      subst hh ha
      generalize hk : t.length = k at *
      have hNt : valL t = N := by
        have : valL ([48] ++ t) = valL [48] * 10 ^ t.length + valL t := valL_append [48] t
        rw [hNN] at this
        have h0 : valL [48] = 0 := rfl
        rw [h0, Nat.zero_mul, Nat.zero_add] at this
        exact this.symm
      have hNk : N < 10 ^ k := by rw [← hNt, ← hk]; exact valL_lt t hta
      have hk1 : 1 ≤ k := by
        refine Decidable.byContradiction fun hc => ?_
        rw [show k = 0 by omega] at hNk
        simp at hNk; exact hN hNk
      have hnk : nn ≤ k := by
        have := len_unique (a := nn - 1) (b := k - 1) hnlo (by rw [show k - 1 + 1 = k by omega]; exact hNk)
        omega
      have htd : ∀ j (b : UInt8), t[j]? = some b → N / 10 ^ (k - 1 - j) % 10 = b.toNat - 48 := by
        intro j b hb
        have := hdig (j + 1) b (by simpa using hb)
        rw [show ([48] : List UInt8).length + k - 1 - (j + 1) = k - 1 - j by simp; omega] at this
        exact this
      have htD : ∀ j (b : UInt8), t[j]? = some b → 48 ≤ b.toNat := fun j b hb => ((isD_iff b).1 (List.all_eq_true.1 hta b (List.mem_of_getElem? hb))).1
      have htc : ∀ j (b : UInt8), t[j]? = some b → UInt8.ofNat (48 + N / 10 ^ (k - 1 - j) % 10) = b := by
        intro j b hb
        have h1 := htD j b hb
        rw [htd j b hb, show 48 + (b.toNat - 48) = b.toNat by omega]
        exact UInt8.ofNat_toNat
      have hfirst : lft d (nn + (q - k)) 0 ≠ 0 := by
        rw [hl1 0 (by omega), Nat.sub_zero]
        have a1 : N / 10 ^ (nn - 1) < 10 := by
          refine Nat.div_lt_of_lt_mul ?_
          rw [Nat.mul_comm, ← Nat.pow_succ', show (nn - 1).succ = nn by omega]; exact hnhi
        have a2 : 1 ≤ N / 10 ^ (nn - 1) := (Nat.le_div_iff_mul_le (Nat.pow_pos (by omega))).2 (by omega)
        omega
      have hz1 : 1 ≤ nz := by
        refine Decidable.byContradiction fun hc => ?_
        exact hfirst (t2 0 (by omega) (by omega))
      have hlast : lft d (nn + (q - k)) (nz - 1) ≠ 0 := by
        rcases t3 with h0 | h0
        · omega
        · exact h0
      obtain ⟨dp, hdp⟩ : ∃ dp : Int, ((nn + (q - k) : Nat) : Int) - (q : Int) = dp := ⟨_, rfl⟩
      rw [hdp]
      have hdp2 : dp = (nn : Int) - (k : Int) := by omega
      have hpos : 0 < max ((nz : Int) - dp) 0 := by omega
      rw [if_pos hpos]
      have hint : intS (fun i => 48 + lft d (nn + (q - k)) i) nz dp = [48] := by unfold intS; rw [if_neg (by omega)]
      rw [hint]
      have hdpt : dp.toNat = 0 := by omega
      have hdpn : (-dp).toNat = k - nn := by omega
      have hfr : (fracS (fun i => 48 + lft d (nn + (q - k)) i) nz dp).map UInt8.ofNat = 46 :: t.take (k - nn + nz) := by
        unfold fracS
        rw [hdpt, hdpn, List.map_cons, List.map_append, List.map_replicate, List.map_map, Nat.sub_zero, rep_range]
        congr 1
        refine map_range_eq (by rw [List.length_take, hk]; omega) ?_
        intro i b hb
        by_cases hir : i < k - nn + nz
        · rw [List.getElem?_take, if_pos hir] at hb
          by_cases hi : i < k - nn
          · rw [if_pos hi]
            have hc := htc i b hb
            have : N / 10 ^ (k - 1 - i) = 0 := Nat.div_eq_of_lt (Nat.lt_of_lt_of_le hnhi (Nat.pow_le_pow_right (by omega) (by omega)))
            rw [this] at hc
            exact hc
          · rw [if_neg hi]
            simp only [Function.comp_apply, Nat.zero_add]
            rw [hl1 (i - (k - nn)) (by omega), show nn - 1 - (i - (k - nn)) = k - 1 - i by omega]
            exact htc i b hb
        · rw [List.getElem?_take, if_neg hir] at hb; cases hb
      have htrim : t.take (k - nn + nz) = trimZ t := by
        refine trim_take (by omega) ?_ (.inr ?_)
        · intro j hj b hb
          have hjl : j < k := by
            have := (List.getElem?_eq_some_iff.1 hb).1; omega
          have h0 := t2 (j - (k - nn)) (by omega) (by omega)
          rw [hl1 _ (by omega), show nn - 1 - (j - (k - nn)) = k - 1 - j by omega] at h0
          have := htc j b hb
          rw [h0] at this; exact this.symm
        · have hg : t[k - nn + nz - 1]? = some t[k - nn + nz - 1] := List.getElem?_eq_getElem (by omega)
          refine ⟨_, hg, fun e => ?_⟩
          have h0 := htd _ _ hg
          rw [e, show k - 1 - (k - nn + nz - 1) = nn - 1 - (nz - 1) by omega, ← hl1 (nz - 1) (by omega)] at h0
          exact hlast (by rw [h0]; rfl)
      rw [hfr, htrim]
      have hne : trimZ t ≠ [] := by
        rw [← htrim]
        intro e
        have := congrArg List.length e
        rw [List.length_take, hk, List.length_nil] at this
        omega
      unfold fracL
      rw [if_neg hne]
      rfl
    · have hge := valL_ge (l := h ++ t) hall ha
      have hNN' : valL (a :: (h ++ t)) = N := hNN
      rw [hNN', List.length_append] at hge
      have hlt : N < 10 ^ ((a :: h).length + t.length) := by rw [← hNN, ← hlenL]; exact valL_lt _ hall
      generalize hk : t.length = k at *
      have hlc : (a :: h).length = h.length + 1 := rfl
      obtain ⟨hl, hhl⟩ : ∃ hl, (a :: h).length = hl := ⟨_, rfl⟩
      rw [hhl] at hlc hlt hchr hdig
      have hnm : nn = hl + k := by
        have h1 := len_unique (a := nn - 1) (b := hl + k - 1) hnlo (by rw [show hl + k - 1 + 1 = hl + k by omega]; exact hlt)
        have h2 := len_unique (a := h.length + k) (b := nn - 1) hge (by rw [show nn - 1 + 1 = nn by omega]; exact hnhi)
        omega
      obtain ⟨dp, hdp⟩ : ∃ dp : Int, ((nn + (q - k) : Nat) : Int) - (q : Int) = dp := ⟨_, rfl⟩
      rw [hdp]
      have hdp2 : dp = (hl : Int) := by omega
      have hdpt : dp.toNat = hl := by omega
      have hdpn : (-dp).toNat = 0 := by omega
      have hLd : ∀ i (b : UInt8), (a :: h ++ t)[i]? = some b → i < nn ∧ UInt8.ofNat (48 + lft d (nn + (q - k)) i) = b ∧ lft d (nn + (q - k)) i = b.toNat - 48 := by
        intro i b hb
        have hi : i < nn := by
          have := (List.getElem?_eq_some_iff.1 hb).1
          rw [List.length_append, hhl, hk] at this; omega
        rw [hl1 i hi, hnm]
        exact ⟨by omega, hchr i b hb, hdig i b hb⟩
      have hint : (intS (fun i => 48 + lft d (nn + (q - k)) i) nz dp).map UInt8.ofNat = a :: h := by
        unfold intS
        rw [if_pos (by omega), hdpt, List.map_append, List.map_replicate, List.map_map, range_rep _ _ _ (by omega)]
        refine map_range_eq hhl.symm ?_
        intro i b hb
        have hi : i < hl := by rw [← hhl]; exact (List.getElem?_eq_some_iff.1 hb).1
        have hb2 : (a :: h ++ t)[i]? = some b := by rw [List.getElem?_append_left (by rw [hhl]; exact hi)]; exact hb
        obtain ⟨_, c1, _⟩ := hLd i b hb2
        split
        · exact c1
        · rw [t2 i (by omega) (by omega)] at c1
          exact c1
      rw [hint]
      have htL : ∀ j (b : UInt8), t[j]? = some b → (a :: h ++ t)[hl + j]? = some b := by
        intro j b hb
        rw [List.getElem?_append_right (by rw [hhl]; omega), hhl, Nat.add_sub_cancel_left]; exact hb
      have htz : ∀ j, nz - hl ≤ j → ∀ b, t[j]? = some b → b = 48 := by
        intro j hj b hb
        obtain ⟨hi, c1, _⟩ := hLd _ _ (htL j b hb)
        rw [t2 (hl + j) (by omega) (by omega)] at c1
        exact c1.symm
      by_cases hp : hl < nz
      · have hpos : 0 < max ((nz : Int) - dp) 0 := by omega
        rw [if_pos hpos]
        have hlast : lft d (nn + (q - k)) (nz - 1) ≠ 0 := by
          rcases t3 with h0 | h0
          · omega
          · exact h0
        have htrim : t.take (nz - hl) = trimZ t := by
          refine trim_take (by omega) htz (.inr ?_)
          have hg : t[nz - hl - 1]? = some t[nz - hl - 1] := List.getElem?_eq_getElem (by omega)
          refine ⟨_, hg, fun e => ?_⟩
          obtain ⟨_, _, c2⟩ := hLd _ _ (htL _ _ hg)
          rw [e, show hl + (nz - hl - 1) = nz - 1 by omega] at c2
          exact hlast (by rw [c2]; rfl)
        have hfr : (fracS (fun i => 48 + lft d (nn + (q - k)) i) nz dp).map UInt8.ofNat = 46 :: t.take (nz - hl) := by
          unfold fracS
          rw [hdpt, hdpn, List.map_cons, List.replicate_zero, List.nil_append, List.map_map]
          congr 1
          refine map_range_eq (by rw [List.length_take, hk]; omega) ?_
          intro i b hb
          by_cases hir : i < nz - hl
          · rw [List.getElem?_take, if_pos hir] at hb
            exact (hLd _ _ (htL i b hb)).2.1
          · rw [List.getElem?_take, if_neg hir] at hb; cases hb
        rw [hfr, htrim]
        have hne : trimZ t ≠ [] := by
          rw [← htrim]
          intro e
          have := congrArg List.length e
          rw [List.length_take, hk, List.length_nil] at this
          omega
        unfold fracL
        rw [if_neg hne]
      · have hpos : ¬ (0 < max ((nz : Int) - dp) 0) := by omega
        rw [if_neg hpos]
        have htrim : t.take 0 = trimZ t := trim_take (Nat.zero_le _) (fun j _ => htz j (by omega)) (.inl rfl)
        have hne : trimZ t = [] := by rw [← htrim]; rfl
        unfold fracL
        rw [if_pos hne]
end Go.Proofs.YtddpnhhgmfaloaaDoor
